/- Lemmas and contracts for the statement of PwArraysSteps: joined by program out of this session's texts. -/
import Derived.Test.YtmlifggklaeieaaDoorBdPwArraysSteps1
import Derived.Maps.OwnSet
import Derived.Deep.DrawnRows
import Derived.Deep.RegionHeld3
import Derived.Deep.DeepCutAuto
import Derived.Deep.RegionWith
import Derived.Outline
import Derived.Maps.Own
import Derived.Deep.QuietTactic
import Derived.BigQuiet
import Derived.Laws.StructEq
import Derived.Laws.Rows
import Derived.RegionTactic
import Derived.ChangeAlike
/- A world of classes, as it lies in memory. -/
namespace Go.Proofs.YtmlifggklaeieaaDoor.Hi
open Go Go.RowKit Go.Proofs.YtmlifggklaeieaaDoorW.PrintWords Go.Proofs.YtmlifggklaeieaaDoorW.PrintLast Go.Proofs.YtmlifggklaeieaaDoorW.PrintMore Go.Proofs.YtmlifggklaeieaaDoor.Pt
set_option linter.unusedVariables false
set_option linter.unusedSimpArgs false

/-- An entry: a class, what stands above it, how deep it lies, the interfaces above it. -/
structure Ent where
  c : S44
  above : Int
  depth : Int
  clo : List Int
def kE : Kd Ent := Kd.iso (Kd.pair k44 (Kd.pair (Kd.int .i64) (Kd.pair (Kd.int .i64) (Kd.slice 3 (Kd.int .i64))))) (fun x : Ent => (x.c, x.above, x.depth, x.clo))
theorem kE_open {w : World} {x : Ent} {cs : List Value} (h : kE.K w x cs) : ∃ A2 c2 A5 c5 A8 c8, cs = [.string x.c.f0, .string x.c.f1, .slice A2 x.c.f2.length c2, .int .i64 x.c.f3, .int .i64 x.c.f4, .slice A5 x.c.f5.length c5, .int .i64 x.above, .int .i64 x.depth, .slice A8 x.clo.length c8] ∧ x.c.f2.length ≤ c2 ∧ Kd.string.C w A2 x.c.f2.length x.c.f2 ∧ x.c.f5.length ≤ c5 ∧ k51.C w A5 x.c.f5.length x.c.f5 ∧ x.clo.length ≤ c8 ∧ (Kd.int .i64).C w A8 x.clo.length x.clo := by
  obtain ⟨_, _, rfl, hc, ⟨_, _, rfl, rfl, ⟨_, _, rfl, rfl, ⟨A8, c8, rfl, l8, g8⟩⟩⟩⟩ := h
  obtain ⟨A2, c2, A5, c5, rfl, l2, g2, l5, g5⟩ := k44_open hc
  exact ⟨A2, c2, A5, c5, A8, c8, rfl, l2, g2, l5, g5, l8, g8⟩
theorem kE_mkM (w : World) (base : Nat) (ok : Nat → Prop) (x : Ent) {v2 v5 v8 : Value} (g2 : Kd.string.R 9 w base ok v2 x.c.f2) (g5 : k51.R 51 w base ok v5 x.c.f5) (g8 : (Kd.int .i64).R 3 w base ok v8 x.clo) :
    kE.M w base ok x [.string x.c.f0, .string x.c.f1, v2, .int .i64 x.c.f3, .int .i64 x.c.f4, v5, .int .i64 x.above, .int .i64 x.depth, v8] :=
  ⟨[.string x.c.f0, .string x.c.f1, v2, .int .i64 x.c.f3, .int .i64 x.c.f4, v5], [.int .i64 x.above, .int .i64 x.depth, v8], rfl, k44_mkM w base ok x.c g2 g5, ⟨[.int .i64 x.above], [.int .i64 x.depth, v8], rfl, rfl, ⟨[.int .i64 x.depth], [v8], rfl, rfl, ⟨v8, rfl, g8⟩⟩⟩⟩
def ptrE (p : Nat) : Value := .pointer (some ⟨p, 0, none⟩)
def kP : Kd Nat := Kd.scalar ptrE (fun _ => rfl)
/-- What the map of names says. -/
def MapSays (D : DataW Unit) (names : List ByteArray) : Prop := Maps.IsMap D ∧ ∀ s : ByteArray,
  (Maps.has D (.string s.data.toList) = true ↔ s ∈ names) ∧ ∀ i : Nat, names[i]? = some s → D.atKey (.string s.data.toList) (.lit (.int .i64 0)) = .lit (.int .i64 i)
theorem str_inj {s t : ByteArray} (h : Lit.string s.data.toList = Lit.string t.data.toList) : s = t := by
  injection h with h
  cases s; cases t
  simp at h
  rw [ByteArray.mk.injEq]
  exact h
theorem MapSays.nil : MapSays (.map []) [] := ⟨⟨[], rfl⟩, fun s => ⟨by simp [Maps.has], fun i h => by simp at h⟩⟩
theorem MapSays.put {D : DataW Unit} {names : List ByteArray} (h : MapSays D names) (s : ByteArray) (hs : s ∉ names) : MapSays (D.put (.string s.data.toList) (.lit (.int .i64 (names.length : Nat)))) (names ++ [s]) := by
  obtain ⟨hm, h⟩ := h
  have hk : WideAt.IsKeyLit (.string s.data.toList) := by simp [WideAt.IsKeyLit]
  refine ⟨?_, fun t => ?_⟩
  · obtain ⟨es, rfl⟩ := hm
    exact ⟨_, rfl⟩
  · obtain ⟨h1, h2⟩ := h t
    by_cases ht : t = s
    · subst ht
      refine ⟨by rw [Maps.has_put_same hm hk]; simp, fun i hi => ?_⟩
      rw [Maps.atKey_put_same hm hk]
      have : ¬ i < names.length := fun hl => by
        rw [List.getElem?_append_left hl] at hi
        exact hs (List.mem_of_getElem? hi)
      rw [List.getElem?_append_right (by omega)] at hi
      have : i - names.length = 0 := by
        cases h0 : i - names.length with
        | zero => rfl
        | succ k => rw [h0] at hi; simp at hi
      obtain rfl : i = names.length := by omega
      rfl
    · have hne : Lit.string t.data.toList ≠ Lit.string s.data.toList := fun e => ht (str_inj e)
      refine ⟨by rw [Maps.has_put_other hne, h1]; simp [ht], fun i hi => ?_⟩
      rw [Maps.atKey_put_other hne]
      by_cases hl : i < names.length
      · rw [List.getElem?_append_left hl] at hi
        exact h2 i hi
      · rw [List.getElem?_append_right (by omega)] at hi
        cases h0 : i - names.length with
        | zero => rw [h0] at hi; simp at hi; exact absurd hi.symm ht
        | succ k => rw [h0] at hi; simp at hi
/-- The world at block g, its row v, its map's block mb, its entries' blocks ps. -/
structure WIn (w : World) (base g : Nat) (v : Value) (mb : Nat) (ps : List Nat) (es : List Ent) : Prop where
  hg : base ≤ g
  blk : w.heap[g]? = some (.cells #[v, .map (some mb)] 88 (0, 0))
  row : Kd.R kP 72 w base (fun _ => True) v ps
  len : ps.length = es.length
  ent : ∀ (j : Nat) (x : Ent) (p : Nat), es[j]? = some x → ps[j]? = some p → base ≤ p ∧ ∃ cells, w.heap[p]? = some (.cells cells 77 (0, 0)) ∧ kE.M w base (fun _ => True) x cells.toList
  mbl : base ≤ mb
  map : ∃ D : DataW Unit, w.ownsMap Tryd.prog 9 (plainElem Tryd.prog 3) mb es.length D ∧ MapSays D (es.map (·.c.f0))
/-- What stays of a world that other code leaves alone. -/
theorem WIn.below {w w1 : World} {base g : Nat} {v : Value} {mb : Nat} {ps : List Nat} {es : List Ent} (h : WIn w base g v mb ps es) (hb : Below w.heap.size w w1) : WIn w1 base g v mb ps es := by
  refine ⟨h.hg, blk_below h.blk hb, ?_, h.len, fun j x p hx hp => ?_, h.mbl, ?_⟩
  · exact Kd.R_below h.row hb
  · obtain ⟨h1, cells, h2, h3⟩ := h.ent j x p hx hp
    exact ⟨h1, cells, blk_below h2 hb, Kd.M_below h3 hb⟩
  · obtain ⟨D, h1, h2⟩ := h.map
    obtain ⟨es1, clock, hbk, F, hs, rfl⟩ := h1
    exact ⟨_, ⟨es1, clock, blk_below hbk hb, F, hs, rfl⟩, h2⟩
theorem WIn.lower {w : World} {base base' g : Nat} {v : Value} {mb : Nat} {ps : List Nat} {es : List Ent} (h : WIn w base g v mb ps es) (hb : base' ≤ base) : WIn w base' g v mb ps es :=
  ⟨Nat.le_trans hb h.hg, h.blk, Kd.R_lower h.row hb, h.len, fun j x p hx hp => by
    obtain ⟨h1, cells, h2, h3⟩ := h.ent j x p hx hp
    exact ⟨Nat.le_trans hb h1, cells, h2, Kd.M_lower _ hb h3⟩, Nat.le_trans hb h.mbl, h.map⟩
end Go.Proofs.YtmlifggklaeieaaDoor.Hi

/- hier.World.at: the entry of a number. -/
namespace Go.Proofs.YtmlifggklaeieaaDoor.Hi
open Go Go.RowKit Go.Proofs.YtmlifggklaeieaaDoorW.PrintWords Go.Proofs.YtmlifggklaeieaaDoorW.PrintLast Go.Proofs.YtmlifggklaeieaaDoorW.PrintMore Go.Proofs.YtmlifggklaeieaaDoor.Pt
set_option linter.unusedVariables false
set_option linter.unusedSimpArgs false
set_option maxHeartbeats 2000000

/-- The entry of a number, or nil. -/
def atP (ps : List Nat) (id : Int) : Value := if 0 ≤ id ∧ id < ps.length then ptrE (ps.getD id.toNat 0) else .pointer none
theorem at_nil (id : Int) (w : World) :
    Calls Tryd.prog 32 #[.pointer none, .int .i64 id] w fun e w' => e = .returned (.pointer none) ∧ Below w.heap.size w w' := by
  go_enter Tryd.func32, Tryd.ntmps32
  go_wp2
  refine bodyPost_ret (v := .pointer none) (by simp [results, Tryd.results32, go_sem]) rfl ⟨rfl, ?_⟩
  exact Below.refl _ _
theorem at_any (w : World) (base g : Nat) (v : Value) (mb : Nat) (ps : List Nat) (es : List Ent) (h : WIn w base g v mb ps es) (id : Int) :
    Calls Tryd.prog 32 #[.pointer (some ⟨g, 0, none⟩), .int .i64 id] w fun e w' => e = .returned (atP ps id) ∧ Below w.heap.size w w' := by
  obtain ⟨A, c, rfl, hlc, RC⟩ := Kd.R_reads h.row
  have q0 : w.cell? ⟨g, 0, none⟩ = some (.slice A ps.length c) := (blk_cell h.blk 0).trans rfl
  have k0 := blk_frozen h.blk 0
  by_cases h0 : 0 ≤ id
  · by_cases h1 : id < ps.length
    · obtain ⟨ad, cc, rfl, hcl, hK, hcell⟩ := Kd.C_get RC 0 id h0 h1
      obtain rfl : cc = [ptrE (ps.getD id.toNat 0)] := hK
      have hc := hcell 0 _ rfl
      have hlt : decide (id < 0) = false := decide_eq_false (by omega)
      have hge : decide (id ≥ (ps.length : Int)) = false := decide_eq_false (by omega)
      have HA : Hid (atP ps id = ptrE (ps.getD id.toNat 0)) := Lib.hid (if_pos ⟨h0, h1⟩)
      rw [show kP.sz = 1 from rfl] at hc
      rw [Nat.mul_one, Nat.add_zero] at hc
      clear hcell RC hcl
      go_enter Tryd.func32, Tryd.ntmps32
      go_wp2
      exact bodyPost_ret (v := ptrE ps[id.toNat]) (by simp [results, Tryd.results32, go_sem]) rfl ⟨by rw [HA.out, List.getD_eq_getElem?_getD, List.getElem?_eq_getElem (by omega)]; rfl, Below.refl _ _⟩
    · have hlt : decide (id < 0) = false := decide_eq_false (by omega)
      have hge : decide (id ≥ (ps.length : Int)) = true := decide_eq_true (by omega)
      have HA : Hid (atP ps id = .pointer none) := Lib.hid (if_neg (by omega))
      clear RC
      go_enter Tryd.func32, Tryd.ntmps32
      go_wp2
      exact bodyPost_ret (v := .pointer none) (by simp [results, Tryd.results32, go_sem]) rfl ⟨by rw [HA.out], Below.refl _ _⟩
  · have hlt : decide (id < 0) = true := decide_eq_true (by omega)
    have HA : Hid (atP ps id = .pointer none) := Lib.hid (if_neg (by omega))
    clear RC
    go_enter Tryd.func32, Tryd.ntmps32
    go_wp2
    exact bodyPost_ret (v := .pointer none) (by simp [results, Tryd.results32, go_sem]) rfl ⟨by rw [HA.out], Below.refl _ _⟩
end Go.Proofs.YtmlifggklaeieaaDoor.Hi

/- hier.World.Class: the class of a number. -/
namespace Go.Proofs.YtmlifggklaeieaaDoor.Hi
open Go Go.RowKit Go.Proofs.YtmlifggklaeieaaDoorW.PrintWords Go.Proofs.YtmlifggklaeieaaDoorW.PrintLast Go.Proofs.YtmlifggklaeieaaDoorW.PrintMore Go.Proofs.YtmlifggklaeieaaDoor.Pt
set_option linter.unusedVariables false
set_option linter.unusedSimpArgs false
set_option maxHeartbeats 2000000

def zE : Ent := ⟨z44, 0, 0, []⟩
/-- The class of a number, and the error. -/
def classF (es : List Ent) (id : Int) : S44 × Int := if 0 ≤ id ∧ id < es.length then ((es.getD id.toNat zE).c, 0) else (z44, 3)
/-- A class that can be copied. -/
def Small (c : S44) : Prop := c.f2.length * 16 ≤ 140737488355328 ∧ Short c.f5
/-- A class as a value, its rows the call's own. -/
def OwnC (w : World) (base : Nat) (v : Value) (c : S44) : Prop := ∃ v2 v5, v = .agg #[.string c.f0, .string c.f1, v2, .int .i64 c.f3, .int .i64 c.f4, v5] ∧ Kd.R Kd.string 9 w base (fun _ => True) v2 c.f2 ∧ Kd.R k51 51 w base (fun _ => True) v5 c.f5
theorem WIn.at_ {w : World} {base g : Nat} {v : Value} {mb : Nat} {ps : List Nat} {es : List Ent} (h : WIn w base g v mb ps es) {id : Int} (h0 : 0 ≤ id) (h1 : id < es.length) :
    ∃ p cells, atP ps id = ptrE p ∧ w.heap[p]? = some (.cells cells 77 (0, 0)) ∧ kE.K w (es.getD id.toNat zE) cells.toList := by
  have hl := h.len
  have hx : es[id.toNat]? = some (es.getD id.toNat zE) := by
    rw [List.getD_eq_getElem?_getD, List.getElem?_eq_getElem (by omega)]; rfl
  have hp : ps[id.toNat]? = some (ps.getD id.toNat 0) := by
    rw [List.getD_eq_getElem?_getD, List.getElem?_eq_getElem (by omega)]; rfl
  obtain ⟨_, cells, h2, h3⟩ := h.ent _ _ _ hx hp
  exact ⟨ps.getD id.toNat 0, cells, if_pos ⟨h0, by omega⟩, h2, Kd.K_of_M _ h3⟩
/-- A class stored at a block, field by field. -/
abbrev set6 (W : World) (g : Nat) (u0 u1 u2 u3 u4 u5 : Value) : World := ((((((W.setCell ⟨g, 0, none⟩ u0).setCell ⟨g, 1, none⟩ u1).setCell ⟨g, 2, none⟩ u2).setCell ⟨g, 3, none⟩ u3).setCell ⟨g, 4, none⟩ u4).setCell ⟨g, 5, none⟩ u5)
theorem blk_set6 {W : World} {g t : Nat} {x0 x1 x2 x3 x4 x5 : Value} (h : W.heap[g]? = some (.cells #[x0, x1, x2, x3, x4, x5] t (0, 0))) (u0 u1 u2 u3 u4 u5 : Value) : (set6 W g u0 u1 u2 u3 u4 u5).heap[g]? = some (.cells #[u0, u1, u2, u3, u4, u5] t (0, 0)) :=
  (blk_set (blk_set (blk_set (blk_set (blk_set (blk_set h 0 u0) 1 u1) 2 u2) 3 u3) 4 u4) 5 u5).trans rfl
theorem R_set6 {α : Type} {d : Kd α} {e : Nat} {W : World} {base : Nat} {ok : Nat → Prop} {v : Value} {xs : List α} (h : d.R e W base ok v xs) {g t : Nat} {cells : Array Value} (hb : W.heap[g]? = some (.cells cells t (0, 0))) (ht : ∀ q, q ∈ e :: d.E → q ≠ t) (u0 u1 u2 u3 u4 u5 : Value) : d.R e (set6 W g u0 u1 u2 u3 u4 u5) base ok v xs :=
  Kd.R_set (Kd.R_set (Kd.R_set (Kd.R_set (Kd.R_set (Kd.R_set h hb ht 0 u0) (blk_set hb 0 u0) ht 1 u1) (blk_set (blk_set hb 0 u0) 1 u1) ht 2 u2) (blk_set (blk_set (blk_set hb 0 u0) 1 u1) 2 u2) ht 3 u3) (blk_set (blk_set (blk_set (blk_set hb 0 u0) 1 u1) 2 u2) 3 u3) ht 4 u4) (blk_set (blk_set (blk_set (blk_set (blk_set hb 0 u0) 1 u1) 2 u2) 3 u3) 4 u4) ht 5 u5
theorem below_set6 {W0 W : World} {base g : Nat} (h : Below base W0 W) (hg : base ≤ g) (u0 u1 u2 u3 u4 u5 : Value) : Below base W0 (set6 W g u0 u1 u2 u3 u4 u5) :=
  (((((h.setCell (p := ⟨g, 0, none⟩) hg u0).setCell (p := ⟨g, 1, none⟩) hg u1).setCell (p := ⟨g, 2, none⟩) hg u2).setCell (p := ⟨g, 3, none⟩) hg u3).setCell (p := ⟨g, 4, none⟩) hg u4).setCell (p := ⟨g, 5, none⟩) hg u5
theorem class_any (w : World) (base g : Nat) (v : Value) (mb : Nat) (ps : List Nat) (es : List Ent) (h : WIn w base g v mb ps es) (hs : ∀ x ∈ es, Small x.c) (id : Int) :
    Calls Tryd.prog 19 #[.pointer (some ⟨g, 0, none⟩), .int .i64 id] w fun e w' => ∃ vc, e = .returned (.tuple #[vc, .int .i64 (classF es id).2]) ∧ OwnC w' w.heap.size vc (classF es id).1 ∧ Below w.heap.size w w' := by
  have hl := h.len
  have B0 := blk_new w (.cells #[.string ⟨#[]⟩, .string ⟨#[]⟩, .slice none 0 0, .int .i64 0, .int .i64 0, .slice none 0 0] 44)
  have BB := (Below.refl w.heap.size w).alloc (Nat.le_refl _) (.cells #[.string ⟨#[]⟩, .string ⟨#[]⟩, .slice none 0 0, .int .i64 0, .int .i64 0, .slice none 0 0] 44)
  have h' := h.below (BB.mono (Nat.le_refl _))
  have CA := Lib.hid (at_any _ base g v mb ps es h' id)
  have hsz : w.heap.size ≤ (w.alloc (.cells #[.string ⟨#[]⟩, .string ⟨#[]⟩, .slice none 0 0, .int .i64 0, .int .i64 0, .slice none 0 0] 44)).heap.size := BB.size
  replace B0 := Lib.hid B0
  replace BB := Lib.hid BB
  replace hsz := Lib.hid hsz
  by_cases hin : 0 ≤ id ∧ id < es.length
  · obtain ⟨p, cells, hp, hblk, hK⟩ := h'.at_ hin.1 hin.2
    have hc : classF es id = ((es.getD id.toNat zE).c, 0) := if_pos hin
    have hx : es.getD id.toNat zE ∈ es := by
      rw [List.getD_eq_getElem?_getD, List.getElem?_eq_getElem (by omega)]
      exact List.getElem_mem _
    have sm := Lib.hid (hs _ hx)
    generalize es.getD id.toNat zE = x at *
    obtain ⟨A2, c2, A5, c5, A8, c8, hcs, l2, g2, l5, g5, l8, g8⟩ := kE_open hK
    obtain rfl : cells = #[.string x.c.f0, .string x.c.f1, .slice A2 x.c.f2.length c2, .int .i64 x.c.f3, .int .i64 x.c.f4, .slice A5 x.c.f5.length c5, .int .i64 x.above, .int .i64 x.depth, .slice A8 x.clo.length c8] := Array.toList_inj.1 hcs
    rw [hp] at CA
    rw [hc]
    replace hblk := Lib.hid hblk
    replace g2 := Lib.hid g2
    replace g5 := Lib.hid g5
    clear hK hcs g8 h h' hc hp hx hs
    go_enter Tryd.func19, Tryd.ntmps19
    go_wp2_with fail
    refine CA.out.mono ?_
    rintro e w1 ⟨rfl, hb1⟩
    have D0 := blk_below B0.out hb1
    have DP := blk_below hblk.out hb1
    have BB1 := Lib.hid (BB.out.trans (hb1.mono hsz.out))
    have CC := Lib.hid (copied_any x.c.f0 x.c.f1 A2 c2 x.c.f2 x.c.f3 x.c.f4 A5 c5 x.c.f5 w1 (Kd.C_below g2.out hb1) (Kd.C_below g5.out hb1) sm.out.1 sm.out.2)
    have p0 : w1.cell? ⟨p, 0, none⟩ = some (.string x.c.f0) := (blk_cell DP 0).trans rfl
    have p1 : w1.cell? ⟨p, 1, none⟩ = some (.string x.c.f1) := (blk_cell DP 1).trans rfl
    have p2 : w1.cell? ⟨p, 2, none⟩ = some (.slice A2 x.c.f2.length c2) := (blk_cell DP 2).trans rfl
    have p3 : w1.cell? ⟨p, 3, none⟩ = some (.int .i64 x.c.f3) := (blk_cell DP 3).trans rfl
    have p4 : w1.cell? ⟨p, 4, none⟩ = some (.int .i64 x.c.f4) := (blk_cell DP 4).trans rfl
    have p5 : w1.cell? ⟨p, 5, none⟩ = some (.slice A5 x.c.f5.length c5) := (blk_cell DP 5).trans rfl
    have hsz1 := Lib.hid (Nat.le_trans hsz.out hb1.size)
    replace D0 := Lib.hid D0
    clear DP hb1 CA hsz BB B0 hblk g2 g5 sm
    rw [show ptrE p = .pointer (some ⟨p, 0, none⟩) from rfl]
    go_wp2_with fail
    refine CC.out.mono ?_
    rintro e w2 ⟨v2, v5, rfl, R2, R5, hb2⟩
    have D := blk_below D0.out hb2
    have BB2 := BB1.out.trans (hb2.mono hsz1.out)
    have q0 : w2.cell? ⟨w.heap.size, 0, none⟩ = some (.string ⟨#[]⟩) := (blk_cell D 0).trans rfl
    have q1 : w2.cell? ⟨w.heap.size, 1, none⟩ = some (.string ⟨#[]⟩) := (blk_cell D 1).trans rfl
    have q2 : w2.cell? ⟨w.heap.size, 2, none⟩ = some (.slice none 0 0) := (blk_cell D 2).trans rfl
    have q3 : w2.cell? ⟨w.heap.size, 3, none⟩ = some (.int .i64 0) := (blk_cell D 3).trans rfl
    have q4 : w2.cell? ⟨w.heap.size, 4, none⟩ = some (.int .i64 0) := (blk_cell D 4).trans rfl
    have q5 : w2.cell? ⟨w.heap.size, 5, none⟩ = some (.slice none 0 0) := (blk_cell D 5).trans rfl
    have k0 := blk_frozen D 0
    have k1 := blk_frozen D 1
    have k2 := blk_frozen D 2
    have k3 := blk_frozen D 3
    have k4 := blk_frozen D 4
    have k5 := blk_frozen D 5
    have T2 := Lib.hid (R_set6 (Kd.R_lower R2 hsz1.out) D (by decide) (.string x.c.f0) (.string x.c.f1) v2 (.int .i64 x.c.f3) (.int .i64 x.c.f4) v5)
    have T5 := Lib.hid (R_set6 (Kd.R_lower R5 hsz1.out) D (by decide) (.string x.c.f0) (.string x.c.f1) v2 (.int .i64 x.c.f3) (.int .i64 x.c.f4) v5)
    have TB := Lib.hid (below_set6 BB2 (g := w.heap.size) (Nat.le_refl _) (.string x.c.f0) (.string x.c.f1) v2 (.int .i64 x.c.f3) (.int .i64 x.c.f4) v5)
    have TX := Lib.hid (blk_set6 D (.string x.c.f0) (.string x.c.f1) v2 (.int .i64 x.c.f3) (.int .i64 x.c.f4) v5)
    obtain ⟨A2', c2', rfl⟩ := Kd.R_slice R2
    obtain ⟨A5', c5', rfl⟩ := Kd.R_slice R5
    clear D D0 BB2 R2 R5 CC hb2
    go_wp2
    exact bodyPost_ret (results_ct rfl _ _ w.heap.size 44 _ (0, 0) _ rfl TX.out Tryd.underlying44 rfl (by kernel_rfl)) rfl ⟨_, rfl, ⟨_, _, rfl, T2.out, T5.out⟩, TB.out⟩
  · have hp : atP ps id = .pointer none := if_neg (by omega)
    have hc : classF es id = (z44, 3) := if_neg hin
    rw [hp] at CA
    rw [hc]
    clear h h' hc hp hs
    go_enter Tryd.func19, Tryd.ntmps19
    go_wp2_with fail
    refine CA.out.mono ?_
    rintro e w2 ⟨rfl, hb2⟩
    have D := blk_below B0.out hb2
    have BB2 := BB.out.trans (hb2.mono hsz.out)
    have q0 : w2.cell? ⟨w.heap.size, 0, none⟩ = some (.string ⟨#[]⟩) := (blk_cell D 0).trans rfl
    have q1 : w2.cell? ⟨w.heap.size, 1, none⟩ = some (.string ⟨#[]⟩) := (blk_cell D 1).trans rfl
    have q2 : w2.cell? ⟨w.heap.size, 2, none⟩ = some (.slice none 0 0) := (blk_cell D 2).trans rfl
    have q3 : w2.cell? ⟨w.heap.size, 3, none⟩ = some (.int .i64 0) := (blk_cell D 3).trans rfl
    have q4 : w2.cell? ⟨w.heap.size, 4, none⟩ = some (.int .i64 0) := (blk_cell D 4).trans rfl
    have q5 : w2.cell? ⟨w.heap.size, 5, none⟩ = some (.slice none 0 0) := (blk_cell D 5).trans rfl
    have k0 := blk_frozen D 0
    have k1 := blk_frozen D 1
    have k2 := blk_frozen D 2
    have k3 := blk_frozen D 3
    have k4 := blk_frozen D 4
    have k5 := blk_frozen D 5
    have TB := Lib.hid (below_set6 BB2 (g := w.heap.size) (Nat.le_refl _) (.string ⟨#[]⟩) (.string ⟨#[]⟩) (.slice none 0 0) (.int .i64 0) (.int .i64 0) (.slice none 0 0))
    have TX := Lib.hid (blk_set6 D (.string ⟨#[]⟩) (.string ⟨#[]⟩) (.slice none 0 0) (.int .i64 0) (.int .i64 0) (.slice none 0 0))
    clear D BB2 hb2 CA
    go_wp2
    exact bodyPost_ret (results_ct rfl _ _ w.heap.size 44 _ (0, 0) _ rfl TX.out Tryd.underlying44 rfl (by kernel_rfl)) rfl ⟨_, rfl, ⟨_, _, rfl, Kd.R_nil _ _ _ _ _, Kd.R_nil _ _ _ _ _⟩, TB.out⟩
end Go.Proofs.YtmlifggklaeieaaDoor.Hi

/- What the queries of a world of classes come to: plain functions over the entries. -/
namespace Go.Proofs.YtmlifggklaeieaaDoor.Hi
open Go Go.RowKit Go.Proofs.YtmlifggklaeieaaDoorW.PrintWords Go.Proofs.YtmlifggklaeieaaDoorW.PrintLast Go.Proofs.YtmlifggklaeieaaDoorW.PrintMore Go.Proofs.YtmlifggklaeieaaDoor.Pt
set_option linter.unusedVariables false
set_option linter.unusedSimpArgs false

/-- The entry of a number. -/
def ent (es : List Ent) (i : Int) : Ent := es.getD i.toNat zE
/-- Is it the number of a class? -/
def inB (es : List Ent) (i : Int) : Bool := decide (0 ≤ i ∧ i < es.length)
/-- Is a class an interface? -/
def isI (c : S44) : Bool := Go.bits .and .i64 c.f3 512 != 0
/-- The superclasses stand ahead, and the depths tell how many there are. -/
def Tree (es : List Ent) : Prop := ∀ (i : Nat) (x : Ent), es[i]? = some x → (x.above = -1 ∧ x.depth = 0) ∨ (0 ≤ x.above ∧ x.above < i ∧ x.depth = (ent es x.above).depth + 1)
/-- Up from a class till it is no deeper than d. -/
def climb (es : List Ent) : Nat → Int → Int → Int
  | 0, a, _ => a
  | k + 1, a, d => if (ent es a).depth > d then climb es k (ent es a).above d else a
def extF (es : List Ent) (a b : Int) : Bool :=
  if inB es a && inB es b then (if isI (ent es b).c then (a == b || (ent es a).clo.contains b) else climb es es.length a (ent es b).depth == b) else false
/-- The class, its superclass, and so on. -/
def chainL (es : List Ent) : Nat → Int → List Int
  | 0, _ => []
  | k + 1, a => a :: (if (ent es a).above < 0 then [] else chainL es k (ent es a).above)
/-- The number of a name, and the error. -/
def nameF (es : List Ent) (s : ByteArray) : Int × Int := match (es.map (·.c.f0)).findIdx? (fun t => decide (t = s)) with | some i => ((i : Int), 0) | none => (0, 6)
theorem ent_get {es : List Ent} {i : Nat} {x : Ent} (h : es[i]? = some x) : ent es i = x := by
  simp [ent, List.getD_eq_getElem?_getD, h]
theorem get_ent {es : List Ent} {i : Int} (h0 : 0 ≤ i) (h1 : i < es.length) : es[i.toNat]? = some (ent es i) := by
  rw [ent, List.getD_eq_getElem?_getD, List.getElem?_eq_getElem (by omega)]; rfl
theorem Tree.at_ {es : List Ent} (h : Tree es) {i : Int} (h0 : 0 ≤ i) (h1 : i < es.length) : ((ent es i).above = -1 ∧ (ent es i).depth = 0) ∨ (0 ≤ (ent es i).above ∧ (ent es i).above < i ∧ (ent es i).depth = (ent es (ent es i).above).depth + 1) := by
  rcases h _ _ (get_ent h0 h1) with h | ⟨h2, h3, h4⟩
  · exact .inl h
  · exact .inr ⟨h2, by omega, h4⟩
theorem Tree.depth {es : List Ent} (h : Tree es) : ∀ (n : Nat) (i : Int), i.toNat < n → 0 ≤ i → i < es.length → 0 ≤ (ent es i).depth ∧ (ent es i).depth ≤ i
  | 0, i, h0, _, _ => absurd h0 (by omega)
  | n + 1, i, hn, h0, h1 => by
    rcases h.at_ h0 h1 with ⟨_, hd⟩ | ⟨h2, h3, hd⟩
    · omega
    · have := Tree.depth h n _ (show (ent es i).above.toNat < n by omega) h2 (by omega)
      omega
theorem Tree.depth_ {es : List Ent} (h : Tree es) {i : Int} (h0 : 0 ≤ i) (h1 : i < es.length) : 0 ≤ (ent es i).depth ∧ (ent es i).depth ≤ i := h.depth (i.toNat + 1) i (by omega) h0 h1
/-- The way up stays among the classes; more rounds than the depth come to the same. -/
theorem climb_more {es : List Ent} (h : Tree es) : ∀ (k : Nat) (a d : Int), 0 ≤ a → a < es.length → 0 ≤ d → (ent es a).depth ≤ d + k → ∀ j, climb es (k + j) a d = climb es k a d
  | 0, a, d, h0, h1, hd, hk, j => by
    cases j with
    | zero => rfl
    | succ j =>
      rw [Nat.zero_add]
      show (if (ent es a).depth > d then climb es j (ent es a).above d else a) = a
      rw [if_neg (by omega)]
  | k + 1, a, d, h0, h1, hd, hk, j => by
    rw [show k + 1 + j = (k + j) + 1 by omega, climb, climb]
    by_cases hc : (ent es a).depth > d
    · rw [if_pos hc, if_pos hc]
      rcases h.at_ h0 h1 with ⟨_, hz⟩ | ⟨h2, h3, hz⟩
      · omega
      · exact climb_more h k _ d h2 (by omega) hd (by omega) j
    · rw [if_neg hc, if_neg hc]
end Go.Proofs.YtmlifggklaeieaaDoor.Hi

/- Worlds behind pointers, as the printed texts tell them: the program's world of classes (WOK). -/
namespace Go.Proofs.YtmlifggklaeieaaDoor.Pt
open Go Go.RowKit Go.Proofs.YtmlifggklaeieaaDoor.Hi Go.Proofs.YtmlifggklaeieaaDoorW.PrintWords Go.Proofs.YtmlifggklaeieaaDoorW.PrintLast Go.Proofs.YtmlifggklaeieaaDoorW.PrintMore
set_option linter.unusedVariables false
set_option linter.unusedSimpArgs false

/-- What is known of each class of a world: its sizes. -/
def Fine (x : Ent) : Prop := Small x.c ∧ x.c.f0.size < 4611686018427387904 ∧ x.clo.length ≤ 1000
/-- A block of cells of this type. -/
def TypeAt (w : World) (b t : Nat) : Prop := ∃ cells, w.heap[b]? = some (.cells cells t (0, 0))
theorem TypeAt.below {w w1 : World} {b t : Nat} (h : TypeAt w b t) (hb : Below w.heap.size w w1) : TypeAt w1 b t := by
  obtain ⟨cells, h⟩ := h
  exact ⟨cells, blk_below h hb⟩
theorem TypeAt.alloc {w : World} {b t : Nat} (h : TypeAt w b t) (o : Obj) : TypeAt (w.alloc o) b t := h.below ((Below.refl _ _).alloc (Nat.le_refl _) o)
theorem TypeAt.drewN {w : World} {b t : Nat} (h : TypeAt w b t) (n : Nat) : TypeAt (w.drewN n) b t := h.below (pw_below_drewN (Below.refl _ _) n)
theorem TypeAt.drew {w : World} {b t : Nat} (h : TypeAt w b t) : TypeAt w.drew b t := h.below (below_drew (Below.refl _ _))
theorem TypeAt.setCell {w : World} {b t : Nat} (h : TypeAt w b t) (p : Addr) (u : Value) : TypeAt (w.setCell p u) b t := by
  obtain ⟨cells, h⟩ := h
  by_cases hp : b = p.block
  · subst hp
    refine ⟨if p.spot.isSome = true then cells else cells.setIfInBounds p.off u, ?_⟩
    unfold World.setCell
    show (w.heap.modify p.block _)[p.block]? = _
    rw [Array.getElem?_modify, h]
    simp
  · exact ⟨cells, (Below.heap_setCell w p u b hp).trans h⟩
theorem WIn_setT {w : World} {base g : Nat} {v : Value} {mb : Nat} {ps : List Nat} {es : List Ent} (h : WIn w base g v mb ps es) {b t : Nat} {cells : Array Value} (hb : w.heap[b]? = some (.cells cells t (0, 0)))
    (ht : ∀ q, q ∈ 88 :: 77 :: 72 :: kE.E → q ≠ t) (j : Nat) (u : Value) : WIn (w.setCell ⟨b, j, none⟩ u) base g v mb ps es := by
  refine ⟨h.hg, blk_far (p := ⟨b, j, none⟩) h.blk (blk_ne h.blk hb (ht _ List.mem_cons_self)) u, ?_, h.len, fun i x p hx hp => ?_, h.mbl, ?_⟩
  · exact Kd.R_set h.row hb (fun q hq => ht q (by
      rcases List.mem_cons.1 hq with rfl | hq
      · simp
      · cases hq)) j u
  · obtain ⟨h1, cs, h2, h3⟩ := h.ent i x p hx hp
    exact ⟨h1, cs, blk_far (p := ⟨b, j, none⟩) h2 (blk_ne h2 hb (ht _ (by simp))) u, kE.M_mono (fun _ hk => trivial) (Kd.M_far (p := ⟨b, j, none⟩) (Kd.M_types h3 hb (fun q hq => ht q (by simp [hq]))) (fun _ hk => hk.2) u)⟩
  · obtain ⟨D, h1, h2⟩ := h.map
    obtain ⟨es1, clock, hbk, F, hs, rfl⟩ := h1
    have hne : mb ≠ b := by
      rintro rfl
      rw [hb] at hbk
      cases hbk
    exact ⟨_, ⟨es1, clock, (Below.heap_setCell w ⟨b, j, none⟩ u mb hne).trans hbk, F, hs, rfl⟩, h2⟩
/-- The world of classes at block g. -/
structure WOK (w : World) (g : Nat) (es : List Ent) : Prop where
  inn : ∃ base v mb ps, WIn w base g v mb ps es
  fine : ∀ x ∈ es, Fine x
  tree : Tree es
  len : es.length ≤ 1000
theorem WOK.below {w w1 : World} {g : Nat} {es : List Ent} (h : WOK w g es) (hb : Below w.heap.size w w1) : WOK w1 g es := by
  obtain ⟨⟨base, v, mb, ps, hi⟩, h2, h3, h4⟩ := h
  exact ⟨⟨base, v, mb, ps, hi.below hb⟩, h2, h3, h4⟩
theorem WOK.alloc {w : World} {g : Nat} {es : List Ent} (h : WOK w g es) (o : Obj) : WOK (w.alloc o) g es := h.below ((Below.refl _ _).alloc (Nat.le_refl _) o)
theorem WOK.drewN {w : World} {g : Nat} {es : List Ent} (h : WOK w g es) (n : Nat) : WOK (w.drewN n) g es := h.below (pw_below_drewN (Below.refl _ _) n)
theorem WOK.drew {w : World} {g : Nat} {es : List Ent} (h : WOK w g es) : WOK w.drew g es := h.below (below_drew (Below.refl _ _))
theorem WOK.set {w : World} {g : Nat} {es : List Ent} {b t : Nat} (h : WOK w g es) (hb : TypeAt w b t) (ht : ∀ q, q ∈ 88 :: 77 :: 72 :: kE.E → q ≠ t) (j : Nat) (u : Value) : WOK (w.setCell ⟨b, j, none⟩ u) g es := by
  obtain ⟨⟨base, v, mb, ps, hi⟩, h2, h3, h4⟩ := h
  obtain ⟨cells, hb⟩ := hb
  exact ⟨⟨base, v, mb, ps, WIn_setT hi hb ht j u⟩, h2, h3, h4⟩
theorem WOK.small {w : World} {g : Nat} {es : List Ent} (h : WOK w g es) : ∀ x ∈ es, Small x.c := fun x hx => (h.fine x hx).1
theorem WOK.named {w : World} {g : Nat} {es : List Ent} (h : WOK w g es) : ∀ x ∈ es, Small x.c ∧ x.c.f0.size < 4611686018427387904 := fun x hx => ⟨(h.fine x hx).1, (h.fine x hx).2.1⟩
end Go.Proofs.YtmlifggklaeieaaDoor.Pt

/- hier.World.put's closure: an interface's number joins the closure of the entry that is being laid, if it is not there yet. -/
namespace Go.Proofs.YtmlifggklaeieaaDoor.Hi
open Go Go.RowKit Go.Proofs.YtmlifggklaeieaaDoorW.PrintWords Go.Proofs.YtmlifggklaeieaaDoorW.PrintLast Go.Proofs.YtmlifggklaeieaaDoorW.PrintMore Go.Proofs.YtmlifggklaeieaaDoor.Pt
set_option linter.unusedVariables false
set_option linter.unusedSimpArgs false
set_option maxHeartbeats 2000000
set_option maxRecDepth 100000

def addI (clo : List Int) (id : Int) : List Int := if clo.contains id then clo else clo ++ [id]
theorem contains_R {w : World} {e B : Nat} {ok : Nat → Prop} {v : Value} {clo : List Int} (h : Kd.R (Kd.int .i64) e w B ok v clo) (hl : clo.length ≤ 1000000) (id : Int) :
    Calls Tryd.prog 41 #[v, .int .i64 id] w fun e w' => e = .returned (.bool (clo.contains id)) ∧ w' = w := by
  obtain ⟨A, c, rfl, hc⟩ := own_reads (Kd.own_of_R h)
  rcases Nat.eq_zero_or_pos clo.length with h0 | h0
  · obtain rfl := List.eq_nil_of_length_eq_zero h0
    exact Tryd.slices_Contains_int_empty A c id w
  · obtain ⟨g, cap, eg, _⟩ := Kd.R_form h h0
    injection eg with e1 e2 e3
    subst e1 e3
    have C := Tryd.slices_Contains_int g 0 clo.length c clo id w (Nat.le_refl _) (by omega) (fun j hj => by
      obtain ⟨ad, ea, hx⟩ := hc.2.2 h0
      injection ea with ea
      subst ea
      have := hx j hj
      rw [add_plain] at this
      rwa [Nat.zero_add])
    rwa [List.take_length] at C
theorem info_int : (Tryd.prog.info? 3).map (fun i => (i.zero, i.size, i.bytes)) = some (some (.int .i64 0), ((Kd.int .i64)).sz, 8) := by kernel_rfl
attribute [local go_sem ↓] Go.wp_at_zero Go.wp_at_succ
theorem add_any (w : World) (B pe be : Nat) (x0 x1 x2 x3 x4 x5 x6 x7 v8 : Value) (clo : List Int) (id : Int)
    (hbe : w.heap[be]? = some (.cells #[ptrE pe] 72 (0, 0))) (hpe : w.heap[pe]? = some (.cells #[x0, x1, x2, x3, x4, x5, x6, x7, v8] 77 (0, 0)))
    (h8 : Kd.R (Kd.int .i64) 3 w B (fun _ => True) v8 clo) (hB : B ≤ pe) (hBs : B ≤ w.heap.size) (hl : clo.length ≤ 1000000) :
    Calls Tryd.prog 50 #[.int .i64 id, .pointer (some ⟨be, 0, none⟩)] w fun e w' => e = .returned (.tuple #[]) ∧ ∃ v8', w'.heap[be]? = some (.cells #[ptrE pe] 72 (0, 0)) ∧ w'.heap[pe]? = some (.cells #[x0, x1, x2, x3, x4, x5, x6, x7, v8'] 77 (0, 0)) ∧
      Kd.R (Kd.int .i64) 3 w' B (fun _ => True) v8' (addI clo id) ∧ Below B w w' ∧ ∀ (k : Nat) (o : Obj), w.heap[k]? = some o → k ≠ pe → some k ≠ v8.ownBlock → w'.heap[k]? = some o := by
  obtain ⟨A8, c8, rfl⟩ := Kd.R_slice h8
  have q0 : w.cell? ⟨be, 0, none⟩ = some (.pointer (some ⟨pe, 0, none⟩)) := (blk_cell hbe 0).trans rfl
  have q8 : w.cell? ⟨pe, 8, none⟩ = some (.slice A8 clo.length c8) := (blk_cell hpe 8).trans rfl
  have k8 := blk_frozen hpe 8
  have C := Lib.hid (contains_R h8 hl id)
  have HB := Lib.hid hbe
  have HP := Lib.hid hpe
  have H8 := Lib.hid h8
  have hlp : pe < w.heap.size := blk_lt hpe
  have hlb : be < w.heap.size := blk_lt hbe
  have hnp := Lib.hid (Kd.R_ne h8 hpe (by decide))
  have hnb := Lib.hid (Kd.R_ne h8 hbe (by decide))
  have hne : be ≠ pe := blk_ne hbe hpe (by decide)
  clear hbe hpe h8
  by_cases hc : clo.contains id = true
  · have HA : Hid (addI clo id = clo) := Lib.hid (if_pos hc)
    rw [hc] at C
    go_enter Tryd.func50, Tryd.ntmps50
    go_wp2_with (go_at_call 41; refine C.out.mono ?_; rintro e w1 ⟨rfl, rfl⟩)
    go_end0
    exact ⟨rfl, _, HB.out, HP.out, by rw [HA.out]; exact H8.out, Below.refl _ _, fun k o h _ _ => h⟩
  · have HA : Hid (addI clo id = clo ++ [id]) := Lib.hid (if_neg hc)
    rw [show clo.contains id = false by simpa using hc] at C
    go_enter Tryd.func50, Tryd.ntmps50
    go_wp2_with (go_at_call 41; refine C.out.mono ?_; rintro e w1 ⟨rfl, rfl⟩)
    go_region_law (first | (refine Kd.R_append_step (Kd.int .i64) (W := w1.drew) (w0 := w1) B (by rfl) (.tmp 14) (.tmp 16) 75 3 (.int .i64 0) 8 (by rfl) Tryd.underlying75 info_int rfl (by decide) (by omega) _ clo id [.int .i64 id] (fun _ => True) (fun _ => False) (by rfl) (by rfl) rfl (fun _ h => h.elim) (fun _ _ => trivial) (Kd.R_below H8.out (below_drew1 (Below.refl _ _))) (below_drew1 (Below.refl _ _)) hBs (by omega) ?_; intro v1 w2 h1 h2 h3 h4; obtain ⟨A9, c9, rfl⟩ := Kd.R_slice h1; rw [show (clo ++ [id]).length = clo.length + 1 by simp] at h1; replace h1 := Lib.hid h1; replace h2 := Lib.hid h2; replace h3 := Lib.hid h3; have kx := (h3.out.frozen_far ⟨pe, 8, none⟩ (blk_lt HP.out) hnp.out).trans k8; have qb := (h3.out.cell_far ⟨be, 0, none⟩ (blk_lt HB.out) hnb.out).trans q0; have qp := (h3.out.cell_far ⟨pe, 8, none⟩ (blk_lt HP.out) hnp.out).trans q8; clear h4))
    all_goals go_end0
    all_goals exact ⟨rfl, _, blk_far (p := ⟨pe, 8, none⟩) (blk_grown (w := w1.drew) HB.out h3.out hnb.out) hne _, blk_put (blk_grown (w := w1.drew) HP.out h3.out hnp.out) 8 _ rfl, by rw [HA.out]; exact Kd.R_set h1.out (blk_grown (w := w1.drew) HP.out h3.out hnp.out) (by decide) 8 _, h2.out.setCell (p := ⟨pe, 8, none⟩) hB _, fun k o h h1 h2 => (Below.heap_setCell w2 ⟨pe, 8, none⟩ _ k h1).trans ((h3.out.block k (blk_lt (w := w1) h) h2).trans h)⟩
end Go.Proofs.YtmlifggklaeieaaDoor.Hi

/- hier.World.put: a class is laid whose names are found. -/
namespace Go.Proofs.YtmlifggklaeieaaDoor.Hi
open Go Go.RowKit Go.Proofs.YtmlifggklaeieaaDoorW.PrintWords Go.Proofs.YtmlifggklaeieaaDoorW.PrintLast Go.Proofs.YtmlifggklaeieaaDoorW.PrintMore Go.Proofs.YtmlifggklaeieaaDoor.Pt
set_option linter.unusedVariables false
set_option linter.unusedSimpArgs false
set_option maxHeartbeats 2000000
set_option maxRecDepth 100000

def foldI (l acc : List Int) : List Int := l.foldl addI acc
def closF (es : List Ent) (acc : List Int) (ifs : List Int) : List Int := ifs.foldl (fun a i => addI (foldI (ent es i).clo a) i) acc
/-- The entry that put lays. -/
def putE (es : List Ent) (c : S44) (above : Int) (ifs : List Int) : Ent := ⟨c, above, if above ≥ 0 then (ent es above).depth + 1 else 0, closF es (if above ≥ 0 then (ent es above).clo else []) ifs⟩
/-- Numbers of classes, each once. -/
def Rng (n : Nat) (l : List Int) : Prop := l.Nodup ∧ ∀ x ∈ l, 0 ≤ x ∧ x < n
theorem Rng.nil (n : Nat) : Rng n [] := ⟨List.nodup_nil, fun x hx => by cases hx⟩
theorem Rng.add {n : Nat} {l : List Int} (h : Rng n l) {i : Int} (h0 : 0 ≤ i) (h1 : i < n) : Rng n (addI l i) := by
  unfold addI
  split
  · exact h
  · rename_i hc
    have hc : i ∉ l := by simpa using hc
    refine ⟨List.nodup_append.2 ⟨h.1, by simp, fun a ha b hb => ?_⟩, fun x hx => ?_⟩
    · rw [List.mem_singleton.1 hb]
      rintro rfl
      exact hc ha
    · rcases List.mem_append.1 hx with hx | hx
      · exact h.2 x hx
      · rw [List.mem_singleton.1 hx]; exact ⟨h0, h1⟩
theorem Rng.len {n : Nat} : ∀ {l : List Int}, Rng n l → l.length ≤ n := by
  induction n with
  | zero =>
    intro l h
    cases l with
    | nil => simp
    | cons a l => have := h.2 a (by simp); omega
  | succ n ih =>
    intro l h
    have h2 : Rng n (l.erase (n : Int)) := by
      refine ⟨h.1.erase _, fun x hx => ?_⟩
      have h3 := h.2 x (List.mem_of_mem_erase hx)
      have h4 : x ≠ (n : Int) := fun e => by
        subst e
        exact (List.Nodup.not_mem_erase h.1) hx
      omega
    have h5 := ih h2
    have h6 : l.length ≤ (l.erase (n : Int)).length + 1 := by
      rw [List.length_erase]
      split <;> omega
    omega
theorem Rng.fold {n : Nat} : ∀ {ks l : List Int}, Rng n l → (∀ x ∈ ks, 0 ≤ x ∧ x < n) → Rng n (foldI ks l)
  | [], l, h, _ => h
  | k :: ks, l, h, hk => Rng.fold (ks := ks) (h.add (hk k (by simp)).1 (hk k (by simp)).2) (fun x hx => hk x (by simp [hx]))
theorem foldI_take {l acc : List Int} {j : Nat} {x : Int} (h : l[j]? = some x) : foldI (l.take (j + 1)) acc = addI (foldI (l.take j) acc) x := by
  unfold foldI
  rw [List.take_add_one, h, List.foldl_append]
  rfl
theorem closF_take {es : List Ent} {acc ifs : List Int} {j : Nat} {x : Int} (h : ifs[j]? = some x) : closF es acc (ifs.take (j + 1)) = addI (foldI (ent es x).clo (closF es acc (ifs.take j))) x := by
  unfold closF
  rw [List.take_add_one, h, List.foldl_append]
  rfl
theorem Rng.clos {n : Nat} {es : List Ent} (he : ∀ x ∈ es, Rng n x.clo) : ∀ {ifs acc : List Int}, Rng n acc → (∀ i ∈ ifs, 0 ≤ i ∧ i < es.length) → es.length ≤ n → Rng n (closF es acc ifs)
  | [], acc, h, _, _ => h
  | i :: ifs, acc, h, hi, hn => by
    have h1 := hi i (by simp)
    have hm : ent es i ∈ es := List.mem_of_getElem? (get_ent h1.1 h1.2)
    exact Rng.clos he (ifs := ifs) ((h.fold (he _ hm).2).add h1.1 (by omega)) (fun x hx => hi x (by simp [hx])) hn
end Go.Proofs.YtmlifggklaeieaaDoor.Hi

/- A world of classes that grows by an entry: what stays behind the append and the two stores. -/
namespace Go.Proofs.YtmlifggklaeieaaDoor.Hi
open Go Go.RowKit Go.Proofs.YtmlifggklaeieaaDoorW.PrintWords Go.Proofs.YtmlifggklaeieaaDoorW.PrintLast Go.Proofs.YtmlifggklaeieaaDoorW.PrintMore Go.Proofs.YtmlifggklaeieaaDoor.Pt
set_option linter.unusedVariables false
set_option linter.unusedSimpArgs false

/-- A row (of type e) was appended to, and a block of type t was stored into: what is made of neither stays. -/
theorem M_push {α : Type} {d : Kd α} {w w2 : World} {base : Nat} {x : α} {cs : List Value} (h : d.M w base (fun _ => True) x cs) {u : Value} {e size n B : Nat} {inner : List Value} (ho : w.ownsRow B e size u n inner) (hg : w.grownBy w2 u.ownBlock)
    {g t : Nat} {cells : Array Value} (hb : w.heap[g]? = some (.cells cells t (0, 0))) (he : ∀ q, q ∈ d.E → q ≠ e) (ht : ∀ q, q ∈ d.E → q ≠ t) (j : Nat) (z : Value) : d.M (w2.setCell ⟨g, j, none⟩ z) base (fun _ => True) x cs := by
  have h1 : d.M w base (fun k => True ∧ some k ≠ u.ownBlock ∧ k ≠ g) x cs := d.M_mono (fun k hk => ⟨trivial, fun ek => by
    obtain ⟨_, _, _, q, hq, c, hc⟩ := hk
    obtain ⟨c', hc'⟩ := own_typed ho k ek.symm
    rw [hc] at hc'
    injection hc' with hc'
    injection hc' with _ hc'
    exact he q hq hc', fun ek => by
    obtain ⟨_, _, _, q, hq, c, hc⟩ := hk
    subst ek
    rw [hc] at hb
    injection hb with hb
    injection hb with _ hb
    exact ht q hq hb⟩) (d.M_bound h)
  have h2 : d.M (w2.setCell ⟨g, j, none⟩ z) base (fun k => True ∧ some k ≠ u.ownBlock ∧ k ≠ g) x cs := Kd.M_step h1 (fun k hk hlt => (Below.heap_setCell w2 ⟨g, j, none⟩ z k hk.2.2).trans (hg.block k hlt hk.2.1))
  exact d.M_mono (fun _ _ => trivial) h2
theorem WIn.push {w w2 : World} {base g : Nat} {v v' : Value} {mb : Nat} {ps : List Nat} {es : List Ent} (h : WIn w base g v mb ps es) (hg : w.grownBy w2 v.ownBlock) {p : Nat} (hrow : Kd.R kP 72 w2 base (fun _ => True) v' (ps ++ [p]))
    {x : Ent} {cells : Array Value} (hp : w.heap[p]? = some (.cells cells 77 (0, 0))) (hx : kE.M w base (fun _ => True) x cells.toList) (hbp : base ≤ p) :
    let W := w2.setCell ⟨g, 0, none⟩ v'
    W.heap[g]? = some (.cells #[v', .map (some mb)] 88 (0, 0)) ∧ Kd.R kP 72 W base (fun _ => True) v' (ps ++ [p]) ∧
    (∀ (j : Nat) (y : Ent) (q : Nat), (es ++ [x])[j]? = some y → (ps ++ [p])[j]? = some q → base ≤ q ∧ ∃ cells, W.heap[q]? = some (.cells cells 77 (0, 0)) ∧ kE.M W base (fun _ => True) y cells.toList) ∧
    ∃ D : DataW Unit, W.ownsMap Tryd.prog 9 (plainElem Tryd.prog 3) mb es.length D ∧ MapSays D (es.map (·.c.f0)) := by
  intro W
  obtain ⟨inner, ho⟩ := Kd.R_own h.row
  have hgn : some g ≠ v.ownBlock := Kd.R_ne h.row h.blk (by decide)
  have hg2 := blk_grown h.blk hg hgn
  refine ⟨blk_put hg2 0 v' rfl, Kd.R_set hrow hg2 (by decide) 0 v', ?_, ?_⟩
  · intro j y q hy hq
    have hpg : ∀ {q : Nat} {cs : Array Value}, w.heap[q]? = some (.cells cs 77 (0, 0)) → W.heap[q]? = some (.cells cs 77 (0, 0)) := fun {q cs} hq => blk_far (p := ⟨g, 0, none⟩) (blk_grown hq hg (Kd.R_ne h.row hq (by decide))) (blk_ne hq h.blk (by decide)) v'
    by_cases hj : j < es.length
    · rw [List.getElem?_append_left hj] at hy
      rw [List.getElem?_append_left (by rw [h.len]; exact hj)] at hq
      obtain ⟨h1, cs, h2, h3⟩ := h.ent j y q hy hq
      exact ⟨h1, cs, hpg h2, M_push h3 ho hg h.blk (by decide) (by decide) 0 v'⟩
    · have hj2 : j = es.length := by
        have := (List.getElem?_eq_some_iff.1 hy).1
        simp at this
        omega
      subst hj2
      rw [List.getElem?_append_right (Nat.le_refl _)] at hy
      rw [← h.len, List.getElem?_append_right (Nat.le_refl _)] at hq
      simp at hy hq
      subst hy hq
      exact ⟨hbp, cells, hpg hp, M_push hx ho hg h.blk (by decide) (by decide) 0 v'⟩
  · obtain ⟨D, h1, h2⟩ := h.map
    have hmb : some mb ≠ v.ownBlock := fun e => by
      obtain ⟨c, hc⟩ := own_typed ho mb e.symm
      obtain ⟨es1, clock, hbk, _⟩ := h1
      rw [hbk] at hc
      cases hc
    have hne : mb ≠ g := fun e => by
      obtain ⟨es1, clock, hbk, _⟩ := h1
      have := h.blk
      rw [e, this] at hbk
      cases hbk
    exact ⟨D, (h1.kept hg hmb).setCell (a := ⟨g, 0, none⟩) hne v', h2⟩
/-- Behind the store into the map. -/
theorem WIn.mapped {W w3 : World} {base g : Nat} {v' : Value} {mb : Nat} {ps : List Nat} {es : List Ent}
    (hg : base ≤ g) (hblk : W.heap[g]? = some (.cells #[v', .map (some mb)] 88 (0, 0))) (hrow : Kd.R kP 72 W base (fun _ => True) v' ps) (hlen : ps.length = es.length)
    (hent : ∀ (j : Nat) (y : Ent) (q : Nat), es[j]? = some y → ps[j]? = some q → base ≤ q ∧ ∃ cells, W.heap[q]? = some (.cells cells 77 (0, 0)) ∧ kE.M W base (fun _ => True) y cells.toList) (hmb : base ≤ mb)
    {es1 : Array MapEntry} {clock : Nat} (hm : W.heap[mb]? = some (.map es1 clock)) (hgr : W.grownBy w3 (some mb)) {D : DataW Unit} (hD : w3.ownsMap Tryd.prog 9 (plainElem Tryd.prog 3) mb es.length D) (hs : MapSays D (es.map (·.c.f0))) :
    WIn w3 base g v' mb ps es := by
  have hk : ∀ {k : Nat} {cs : Array Value} {t : Nat}, W.heap[k]? = some (.cells cs t (0, 0)) → some k ≠ some mb := fun {k cs t} h e => by
    injection e with e
    subst e
    rw [h] at hm
    cases hm
  have hmv : ∀ {α : Type} {d : Kd α} {x : α} {cs : List Value}, d.M W base (fun _ => True) x cs → d.M w3 base (fun _ => True) x cs := fun {α d x cs} h => by
    have h1 := d.M_bound h
    exact d.M_mono (fun _ _ => trivial) (d.M_move (fun k hk2 => by
      obtain ⟨_, _, hlt, q, hq, c, hc⟩ := hk2
      exact hgr.block k hlt (hk hc)) h1)
  refine ⟨hg, blk_grown hblk hgr (hk hblk), ?_, hlen, fun j y q hy hq => ?_, hmb, D, hD, hs⟩
  · have h1 := Kd.R_bound hrow
    exact Kd.R_mono (Kd.R_move h1 (fun k hk2 => by
      obtain ⟨_, _, hlt, q, hq, c, hc⟩ := hk2
      exact hgr.block k hlt (hk hc))) (fun _ _ => trivial)
  · obtain ⟨h1, cs, h2, h3⟩ := hent j y q hy hq
    exact ⟨h1, cs, blk_grown h2 hgr (hk h2), hmv h3⟩
end Go.Proofs.YtmlifggklaeieaaDoor.Hi

/- hier.World.put: the walk. -/
namespace Go.Proofs.YtmlifggklaeieaaDoor.Hi
open Go Go.RowKit Go.Proofs.YtmlifggklaeieaaDoorW.PrintWords Go.Proofs.YtmlifggklaeieaaDoorW.PrintLast Go.Proofs.YtmlifggklaeieaaDoorW.PrintMore Go.Proofs.YtmlifggklaeieaaDoor.Pt
set_option linter.unusedVariables false
set_option linter.unusedSimpArgs false
set_option maxHeartbeats 4000000
set_option maxRecDepth 100000

theorem info_P : (Tryd.prog.info? 72).map (fun i => (i.zero, i.size, i.bytes)) = some (some (.pointer none), kP.sz, 8) := by kernel_rfl
theorem three_new (w : World) (o1 o2 o3 : Obj) : (((w.alloc o1).alloc o2).alloc o3).heap[w.heap.size]? = some o1 ∧ (((w.alloc o1).alloc o2).alloc o3).heap[w.heap.size + 1]? = some o2 ∧ (((w.alloc o1).alloc o2).alloc o3).heap[w.heap.size + 1 + 1]? = some o3 ∧ Below w.heap.size w (((w.alloc o1).alloc o2).alloc o3) := by
  have e1 : (w.alloc o1).heap.size = w.heap.size + 1 := by simp
  have e2 : ((w.alloc o1).alloc o2).heap.size = w.heap.size + 1 + 1 := by simp
  refine ⟨blk_alloc (blk_alloc (blk_new w o1) o2) o3, ?_, ?_, ?_⟩
  · have := blk_alloc (blk_new (w.alloc o1) o2) o3
    rwa [e1] at this
  · have := blk_new ((w.alloc o1).alloc o2) o3
    rwa [e2] at this
  · exact (((Below.refl _ _).alloc (Nat.le_refl _) _).alloc (by omega) _).alloc (by omega) _
/-- The entry of a number, as reads through the row of pointers find it. -/
theorem WIn_all_at {w : World} {base g : Nat} {A : Option Addr} {n c : Nat} {mb : Nat} {ps : List Nat} {es : List Ent} (h : WIn w base g (.slice A n c) mb ps es) {i : Int} (h0 : 0 ≤ i) (h1 : i < es.length) :
    n = es.length ∧ ∃ ad p A2 c2 A5 c5 A8 c8, A = some ad ∧ w.cell? (ad.add i.toNat) = some (.pointer (some ⟨p, 0, none⟩)) ∧
      w.heap[p]? = some (.cells #[.string (ent es i).c.f0, .string (ent es i).c.f1, .slice A2 (ent es i).c.f2.length c2, .int .i64 (ent es i).c.f3, .int .i64 (ent es i).c.f4, .slice A5 (ent es i).c.f5.length c5, .int .i64 (ent es i).above, .int .i64 (ent es i).depth, .slice A8 (ent es i).clo.length c8] 77 (0, 0)) ∧
      Kd.C Kd.string w A2 (ent es i).c.f2.length (ent es i).c.f2 ∧ Kd.C k51 w A5 (ent es i).c.f5.length (ent es i).c.f5 ∧ Kd.C (Kd.int .i64) w A8 (ent es i).clo.length (ent es i).clo := by
  have hl := h.len
  obtain ⟨p, cells, hp, hb, hK⟩ := h.at_ h0 h1
  obtain ⟨A', c', ev, hlc, RC⟩ := Kd.R_reads h.row
  injection ev with e1 e2 e3
  subst e1 e3
  refine ⟨by omega, ?_⟩
  obtain ⟨ad, cc, ea, hcl, hKK, hcell⟩ := Kd.C_get RC 0 i h0 (by omega)
  obtain rfl : cc = [ptrE (ps.getD i.toNat 0)] := hKK
  have hc := hcell 0 _ rfl
  rw [show kP.sz = 1 from rfl, Nat.mul_one, Nat.add_zero] at hc
  rw [show atP ps i = ptrE (ps.getD i.toNat 0) from if_pos ⟨h0, by omega⟩] at hp
  rw [hp] at hc
  obtain ⟨A2, c2, A5, c5, A8, c8, hcs, l2, g2, l5, g5, l8, g8⟩ := kE_open hK
  have hcs := Array.toList_inj.1 hcs
  rw [hcs] at hb
  exact ⟨ad, p, A2, c2, A5, c5, A8, c8, ea, hc, hb, g2, g5, g8⟩
/-- What is neither a world nor a row of its entries (nor a map) stays. -/
def KeptT (w w' : World) : Prop := ∀ (k : Nat) (cells : Array Value) (t : Nat), w.heap[k]? = some (.cells cells t (0, 0)) → t ≠ 88 → t ≠ 72 → w'.heap[k]? = some (.cells cells t (0, 0))
theorem KeptT.of_below {w w' : World} (h : Below w.heap.size w w') : KeptT w w' := fun k cells t hk _ _ => blk_below hk h
theorem KeptT.trans {w w1 w2 : World} (h : KeptT w w1) (h2 : KeptT w1 w2) : KeptT w w2 := fun k cells t hk h3 h4 => h2 k cells t (h k cells t hk h3 h4) h3 h4
/-- The world of a put under way: the class's box, the entry with its closure, the entry's box. -/
structure Lay (w wr : World) (x0 x1 x2 x3 x4 x5 : Value) (ab dp : Int) (clo : List Int) : Prop where
  b5 : wr.heap[w.heap.size]? = some (.cells #[x0, x1, x2, x3, x4, x5] 44 (0, 0))
  pe : ∃ v8, wr.heap[w.heap.size + 1]? = some (.cells #[x0, x1, x2, x3, x4, x5, .int .i64 ab, .int .i64 dp, v8] 77 (0, 0)) ∧ Kd.R (Kd.int .i64) 3 wr w.heap.size (fun _ => True) v8 clo
  be : wr.heap[w.heap.size + 1 + 1]? = some (.cells #[ptrE (w.heap.size + 1)] 72 (0, 0))
  hb : Below w.heap.size w wr
theorem Lay.below {w wr wr1 : World} {x0 x1 x2 x3 x4 x5 : Value} {ab dp : Int} {clo : List Int} (h : Lay w wr x0 x1 x2 x3 x4 x5 ab dp clo) (hb : Below wr.heap.size wr wr1) : Lay w wr1 x0 x1 x2 x3 x4 x5 ab dp clo := by
  obtain ⟨h1, ⟨v8, h2, h3⟩, h4, h5⟩ := h
  exact ⟨blk_below h1 hb, ⟨v8, blk_below h2 hb, Kd.R_below h3 hb⟩, blk_below h4 hb, h5.trans (hb.mono h5.size)⟩
theorem Lay.add {w wr : World} {x0 x1 x2 x3 x4 x5 : Value} {ab dp : Int} {clo : List Int} (h : Lay w wr x0 x1 x2 x3 x4 x5 ab dp clo) (hl : clo.length ≤ 1000) (id : Int) :
    Calls Tryd.prog 50 #[.int .i64 id, .pointer (some ⟨w.heap.size + 1 + 1, 0, none⟩)] wr fun e w' => e = .returned (.tuple #[]) ∧ Lay w w' x0 x1 x2 x3 x4 x5 ab dp (addI clo id) := by
  obtain ⟨h1, ⟨v8, h2, h3⟩, h4, h5⟩ := h
  have hlt := blk_lt h1
  refine (add_any wr w.heap.size (w.heap.size + 1) (w.heap.size + 1 + 1) _ _ _ _ _ _ _ _ v8 clo id h4 h2 h3 (by omega) h5.size (by omega)).mono ?_
  rintro e w' ⟨rfl, v9, g4, g2, g3, hb, hk⟩
  exact ⟨rfl, hk _ _ h1 (by omega) (Kd.R_ne h3 h1 (by decide)), ⟨v9, g2, g3⟩, g4, h5.trans hb⟩
def depF (es : List Ent) (above : Int) : Int := if above ≥ 0 then (ent es above).depth + 1 else 0
def cloF (es : List Ent) (above : Int) : List Int := if above ≥ 0 then (ent es above).clo else []
theorem put_any (w : World) (base g : Nat) (v : Value) (mb : Nat) (ps : List Nat) (es : List Ent) (h : WIn w base g v mb ps es) (hbs : base ≤ w.heap.size)
    (f0 f1 : ByteArray) (v2 v5 : Value) (l2 : List ByteArray) (f3 f4 : Int) (l5 : List S51) (R2 : Kd.R Kd.string 9 w base (fun _ => True) v2 l2) (R5 : Kd.R k51 51 w base (fun _ => True) v5 l5)
    (above : Int) (ha : above = -1 ∨ (0 ≤ above ∧ above < es.length)) (Ai : Option Addr) (ci : Nat) (ifs : List Int) (hi : Kd.C (Kd.int .i64) w Ai ifs.length ifs) (hr : ∀ i ∈ ifs, 0 ≤ i ∧ i < es.length)
    (hlen : es.length ≤ 1000) (hclo : ∀ x ∈ es, Rng es.length x.clo ∧ 0 ≤ x.depth ∧ x.depth ≤ 1000) (hil : ifs.length ≤ 1000) (hn : f0 ∉ es.map (·.c.f0)) (hs : f0.size ≤ 9223372036854775807) :
    Calls Tryd.prog 37 #[.pointer (some ⟨g, 0, none⟩), .agg #[.string f0, .string f1, v2, .int .i64 f3, .int .i64 f4, v5], .int .i64 above, .slice Ai ifs.length ci] w fun e w' =>
      e = .returned (.int .i64 es.length) ∧ ∃ v' p, WIn w' base g v' mb (ps ++ [p]) (es ++ [putE es ⟨f0, f1, l2, f3, f4, l5⟩ above ifs]) ∧ Below base w w' ∧ KeptT w w' := by
  obtain ⟨A2, c2, rfl⟩ := Kd.R_slice R2
  obtain ⟨A5, c5, rfl⟩ := Kd.R_slice R5
  have H := Lib.hid h
  have HR2 := Lib.hid R2
  have HR5 := Lib.hid R5
  have HI := Lib.hid hi
  have HRI := Lib.hid hr
  have HC := Lib.hid hclo
  have HN := Lib.hid hn
  have hgl := blk_lt h.blk
  have qg0 : w.cell? ⟨g, 0, none⟩ = some v := (blk_cell h.blk 0).trans rfl
  have qg1 : w.cell? ⟨g, 1, none⟩ = some (.map (some mb)) := (blk_cell h.blk 1).trans rfl
  obtain ⟨Av, cv, rfl⟩ := Kd.R_slice h.row
  clear h R2 R5 hi hr hclo hn
  go_enter Tryd.func37, Tryd.ntmps37
  go_upto_region 1 with (fail)
  go_cut [9] (fun v9 wc => v9 = .pointer (some ⟨w.heap.size + 1 + 1, 0, none⟩) ∧ Hid (wc.heap[w.heap.size]? = some (.cells #[.string f0, .string f1, .slice A2 l2.length c2, .int .i64 f3, .int .i64 f4, .slice A5 l5.length c5] 44 (0, 0))) ∧ Hid (wc.heap[w.heap.size + 1]? = some (.cells #[.string f0, .string f1, .slice A2 l2.length c2, .int .i64 f3, .int .i64 f4, .slice A5 l5.length c5, .int .i64 above, .int .i64 0, .slice none 0 0] 77 (0, 0))) ∧ Hid (wc.heap[w.heap.size + 1 + 1]? = some (.cells #[ptrE (w.heap.size + 1)] 72 (0, 0))) ∧ Hid (Below w.heap.size w wc))
  case first =>
    go_wp2
    go_meet
    case rel => exact ⟨rfl, Lib.hid (three_new _ _ _ _).1, Lib.hid (three_new _ _ _ _).2.1, Lib.hid (three_new _ _ _ _).2.2.1, Lib.hid (three_new _ _ _ _).2.2.2⟩
  case rest =>
    obtain ⟨rfl, B5, PE, BE, HB⟩ := hcut
    go_upto_if 21 with (fail)
    go_cut [] (fun wc => Hid (Lay w wc (.string f0) (.string f1) (.slice A2 l2.length c2) (.int .i64 f3) (.int .i64 f4) (.slice A5 l5.length c5) above (depF es above) (cloF es above)))
    case first =>
      by_cases h0 : 0 ≤ above
      · have hd : decide (0 ≤ above) = true := decide_eq_true h0
        have h1 : above < es.length := by omega
        have e1 : Hid (depF es above = (ent es above).depth + 1) := Lib.hid (if_pos h0)
        have e2 : Hid (cloF es above = (ent es above).clo) := Lib.hid (if_pos h0)
        obtain ⟨hnl, ad, p, A2', c2', A5', c5', A8', c8', rfl, hrow, hent, g2, g5, g8⟩ := WIn_all_at H.out h0 h1
        have hm : ent es above ∈ es := List.mem_of_getElem? (get_ent h0 h1)
        have hdep := (HC.out _ hm).2
        have hxl := Lib.hid (show (ent es above).clo.length * 8 ≤ 140737488355328 by have := (HC.out _ hm).1.len; omega)
        generalize ent es above = x at *
        have hpl : p < w.heap.size := blk_lt hent
        have hp7 : w.cell? ⟨p, 7, none⟩ = some (.int .i64 x.depth) := (blk_cell hent 7).trans rfl
        have hp8 : w.cell? ⟨p, 8, none⟩ = some (.slice A8' x.clo.length c8') := (blk_cell hent 8).trans rfl
        clear g2 g5 hm hent
        replace hrow := Lib.hid hrow
        replace hp7 := Lib.hid hp7
        replace hp8 := Lib.hid hp8
        replace g8 := Lib.hid g8
        have hlt : above < (ps.length : Int) := by omega
        have hb0 : wc.cell? ⟨w.heap.size + 1 + 1, 0, none⟩ = some (.pointer (some ⟨w.heap.size + 1, 0, none⟩)) := (blk_cell BE.out 0).trans rfl
        have hx7 : wc.cell? ⟨w.heap.size + 1, 7, none⟩ = some (.int .i64 0) := (blk_cell PE.out 7).trans rfl
        have hf7 := blk_frozen PE.out 7
        have hg0 := pw_cell_below HB.out qg0
        have hrow1 := pw_cell_below HB.out hrow.out
        have hp71 := pw_cell_below HB.out hp7.out
        have F1 := Lib.hid (blk_drew (blk_far (p := ⟨w.heap.size + 1, 7, none⟩) B5.out (by simp) (.int .i64 (x.depth + 1))))
        have F2 := Lib.hid (blk_drew (blk_put PE.out 7 (.int .i64 (x.depth + 1)) rfl))
        have F3 := Lib.hid (blk_drew (blk_far (p := ⟨w.heap.size + 1, 7, none⟩) BE.out (by simp) (.int .i64 (x.depth + 1))))
        have F4 := Lib.hid (below_drew1 (HB.out.setCell (p := ⟨w.heap.size + 1, 7, none⟩) (Nat.le_succ _) (.int .i64 (x.depth + 1))))
        go_upto_region 3 with (fail)
        go_region
        generalize (wc.setCell ⟨w.heap.size + 1, 7, none⟩ (.int .i64 (x.depth + 1))).drew = W at *
        clear hb0 hx7 hf7 hg0 hrow1 hp71 B5 PE BE HB
        have hb0 : W.cell? ⟨w.heap.size + 1 + 1, 0, none⟩ = some (.pointer (some ⟨w.heap.size + 1, 0, none⟩)) := (blk_cell F3.out 0).trans rfl
        have hx8 : W.cell? ⟨w.heap.size + 1, 8, none⟩ = some (.slice none 0 0) := (blk_cell F2.out 8).trans rfl
        have hf8 := blk_frozen F2.out 8
        have hg0 := pw_cell_below F4.out qg0
        have hrow1 := pw_cell_below F4.out hrow.out
        have hp81 := pw_cell_below F4.out hp8.out
        have CL := Lib.hid (fun (W' : World) (hb : Below W.heap.size W W') => cloneInt A8' c8' x.clo W' (Kd.C_below g8.out (F4.out.trans (hb.mono F4.out.size))) hxl.out)
        go_wp2_with fail
        go_region_with (go_at_call 49; refine (CL.out _ (by repeat (first | exact Below.refl _ _ | apply below_drew1 | apply pw_below_drewN))).mono ?_; rintro e w10 ⟨v8, rfl, R8, hb10⟩; obtain ⟨A9, c9, rfl⟩ := Kd.R_slice R8; have hb11 : Hid (Below W.heap.size W w10) := Lib.hid ⟨hb10.os, hb10.tape, hb10.output, hb10.size, hb10.block⟩; have hb02 := pw_cell_below hb11.out hb0; have hx82 := pw_cell_below hb11.out hx8; have hf82 := blk_frozen (blk_below F2.out hb11.out) 8; replace R8 := Lib.hid R8; replace hb10 := Lib.hid hb10)
        all_goals have G1 := Lib.hid (blk_far (p := ⟨w.heap.size + 1, 8, none⟩) (blk_below F1.out hb11.out) (by simp) (.slice A9 x.clo.length c9))
        all_goals have G2 := Lib.hid (blk_put (blk_below F2.out hb11.out) 8 (.slice A9 x.clo.length c9) rfl)
        all_goals have G3 := Lib.hid (blk_far (p := ⟨w.heap.size + 1, 8, none⟩) (blk_below F3.out hb11.out) (by simp) (.slice A9 x.clo.length c9))
        all_goals have G4 := Lib.hid ((F4.out.trans (hb11.out.mono F4.out.size)).setCell (p := ⟨w.heap.size + 1, 8, none⟩) (Nat.le_succ _) (.slice A9 x.clo.length c9))
        all_goals have G5 := Lib.hid (Kd.R_set (Kd.R_lower R8.out (show w.heap.size ≤ _ from F4.out.size)) (blk_below F2.out hb11.out) (by decide) 8 (.slice A9 x.clo.length c9))
        all_goals clear hb02 hx82 hf82 R8 hb10
        all_goals go_wp2
        all_goals go_meet
        all_goals (case rel => exact Lib.hid ⟨G1.out, ⟨_, by rw [e1.out]; exact G2.out, by rw [e2.out]; exact G5.out⟩, G3.out, G4.out⟩)
      · have hd : decide (0 ≤ above) = false := decide_eq_false h0
        have e1 : depF es above = 0 := if_neg (by omega)
        have e2 : cloF es above = [] := if_neg (by omega)
        replace e1 := Lib.hid e1
        replace e2 := Lib.hid e2
        go_wp2
        go_meet
        case rel => exact Lib.hid ⟨B5.out, ⟨.slice none 0 0, by rw [e1.out]; exact PE.out, by rw [e2.out]; exact Kd.R_nil _ _ _ _ _⟩, BE.out, HB.out⟩
    case rest =>
      go_upto_block 0 with (fail)
      go_cut [] (fun wc => Hid (Lay w wc (.string f0) (.string f1) (.slice A2 l2.length c2) (.int .i64 f3) (.int .i64 f4) (.slice A5 l5.length c5) above (depF es above) (closF es (cloF es above) ifs)))
      case first =>
        go_wp2_with fail
        go_loopw [53] (fun i wr => ∃ k : Nat, k ≤ ifs.length ∧ i = .int .i64 k ∧ Hid (Lay w wr (.string f0) (.string f1) (.slice A2 l2.length c2) (.int .i64 f3) (.int .i64 f4) (.slice A5 l5.length c5) above (depF es above) (closF es (cloF es above) (ifs.take k)))) (fun i _ => ifs.length - (intOf i).toNat)
        case atStart => exact ⟨0, Nat.zero_le _, rfl, hcut⟩
        case round =>
          clear hcut
          obtain ⟨k, hk, rfl, LY⟩ := hrel
          by_cases hlt : k < ifs.length
          · obtain ⟨ad0, cc, rfl, hcl, hKK, hic⟩ := Kd.C_get HI.out 0 (k : Int) (by omega) (by omega)
            obtain rfl : cc = [.int .i64 (ifs.getD k 0)] := hKK
            have hic := hic 0 _ rfl
            rw [show (Kd.int .i64).sz = 1 from rfl, Nat.mul_one, Nat.add_zero, Int.toNat_natCast] at hic
            have hx : ifs[k]? = some (ifs.getD k 0) := by rw [List.getD_eq_getElem?_getD, List.getElem?_eq_getElem hlt]; rfl
            obtain ⟨hi0, hi1⟩ := HRI.out _ (List.mem_of_getElem? hx)
            have HT := Lib.hid (fun (ci : Nat) (L : List Int) (h : L = closF es (cloF es above) (ifs.take k)) => h)
            have hTk := Lib.hid (closF_take (es := es) (acc := cloF es above) hx)
            have hRk : Hid (Rng es.length (closF es (cloF es above) (ifs.take k))) := Lib.hid (Rng.clos (fun x hx => (HC.out x hx).1) (by
              unfold cloF
              split
              · exact (HC.out _ (List.mem_of_getElem? (get_ent (by assumption) (by omega)))).1
              · exact Rng.nil _) (fun i hi => HRI.out i (List.mem_of_mem_take hi)) (Nat.le_refl _))
            generalize ifs.getD k 0 = i at *
            obtain ⟨hnl, ad, p, A2', c2', A5', c5', A8', c8', rfl, hrow, hent, g2, g5, g8⟩ := WIn_all_at H.out hi0 hi1
            have hm : ent es i ∈ es := List.mem_of_getElem? (get_ent hi0 hi1)
            have hRx := Lib.hid (HC.out _ hm).1
            have hxb : (ent es i).clo.length ≤ 1000 := by have := hRx.out.len; omega
            generalize ent es i = x at *
            have hp8 : w.cell? ⟨p, 8, none⟩ = some (.slice A8' x.clo.length c8') := (blk_cell hent 8).trans rfl
            clear g2 g5 hm hent hx HT
            replace hrow := Lib.hid hrow
            replace hp8 := Lib.hid hp8
            replace g8 := Lib.hid g8
            replace hic := Lib.hid hic
            have hic1 := pw_cell_below LY.out.hb hic.out
            have hg0 := pw_cell_below LY.out.hb qg0
            have hrow1 := pw_cell_below LY.out.hb hrow.out
            have hp81 := pw_cell_below LY.out.hb hp8.out
            have hlt2 : i < (ps.length : Int) := by omega
            have hlk : decide (k < ifs.length) = true := decide_eq_true hlt
            go_wp2_with fail
            go_loopw [68] (fun jv wr => ∃ j : Nat, j ≤ x.clo.length ∧ jv = .int .i64 j ∧ Hid (Lay w wr (.string f0) (.string f1) (.slice A2 l2.length c2) (.int .i64 f3) (.int .i64 f4) (.slice A5 l5.length c5) above (depF es above) (foldI (x.clo.take j) (closF es (cloF es above) (ifs.take k))))) (fun jv _ => x.clo.length - (intOf jv).toNat)
            case atStart => exact ⟨0, Nat.zero_le _, rfl, LY⟩
            case round =>
              clear LY hic1 hg0 hrow1 hp81
              obtain ⟨j, hj, rfl, LZ⟩ := hrel
              by_cases hjl : j < x.clo.length
              · obtain ⟨ad2, cc2, rfl, hcl2, hKK2, hjc⟩ := Kd.C_get g8.out 0 (j : Int) (by omega) (by omega)
                obtain rfl : cc2 = [.int .i64 (x.clo.getD j 0)] := hKK2
                have hjc := hjc 0 _ rfl
                rw [show (Kd.int .i64).sz = 1 from rfl, Nat.mul_one, Nat.add_zero, Int.toNat_natCast] at hjc
                have hy : x.clo[j]? = some (x.clo.getD j 0) := by rw [List.getD_eq_getElem?_getD, List.getElem?_eq_getElem hjl]; rfl
                have hf := Lib.hid (foldI_take (acc := closF es (cloF es above) (ifs.take k)) hy)
                have hln : (foldI (x.clo.take j) (closF es (cloF es above) (ifs.take k))).length ≤ 1000 := Nat.le_trans (hRk.out.fold (ks := x.clo.take j) (fun y hy => hRx.out.2 y (List.mem_of_mem_take hy))).len hlen
                generalize x.clo.getD j 0 = y at *
                have hjc1 := pw_cell_below LZ.out.hb hjc
                have hjd : decide (j < x.clo.length) = true := decide_eq_true hjl
                have CA := Lib.hid (LZ.out.add hln y)
                clear LZ hy hln hjc
                go_wp2_with (go_at_call 50; refine CA.out.mono ?_; rintro e w2 ⟨rfl, LW⟩; replace LW := Lib.hid LW)
                refine ⟨⟨j + 1, by omega, by push_cast; rfl, by rw [hf.out]; exact LW⟩, by simp [intOf]; omega⟩
              · obtain rfl : j = x.clo.length := by omega
                rw [List.take_length] at LZ
                have hln : (foldI x.clo (closF es (cloF es above) (ifs.take k))).length ≤ 1000 := Nat.le_trans (hRk.out.fold (ks := x.clo) hRx.out.2).len hlen
                have hjd : decide (x.clo.length < x.clo.length) = false := by simp
                have CA := Lib.hid (LZ.out.add hln i)
                clear LZ hln
                go_wp2_with (go_at_call 50; refine CA.out.mono ?_; rintro e w2 ⟨rfl, LW⟩; replace LW := Lib.hid LW)
                refine ⟨⟨k + 1, by omega, by push_cast; rfl, by rw [hTk.out]; exact LW⟩, by simp [intOf]; omega⟩
          · obtain rfl : k = ifs.length := by omega
            rw [List.take_length] at LY
            have hge : decide (ifs.length < ifs.length) = false := by simp
            go_wp2
            go_meet
            case rel => exact LY
      case rest =>
        replace LY := hcut
        obtain ⟨B5, ⟨v8, PE, R8⟩, BE, HB⟩ := LY.out
        have HRW := (H.out.below HB)
        have hg0 := pw_cell_below HB qg0
        replace HRW := Lib.hid HRW
        replace B5 := Lib.hid B5
        replace PE := Lib.hid PE
        replace R8 := Lib.hid R8
        replace BE := Lib.hid BE
        replace HB := Lib.hid HB
        clear LY hcut
        have hgl2 : g < wc.heap.size := Nat.lt_of_lt_of_le hgl HB.out.size
        have hbl2 : w.heap.size + 1 + 1 < wc.heap.size := blk_lt BE.out
        have hb0 : wc.cell? ⟨w.heap.size + 1 + 1, 0, none⟩ = some (.pointer (some ⟨w.heap.size + 1, 0, none⟩)) := (blk_cell BE.out 0).trans rfl
        have hgn : Hid (some g ≠ (Value.slice Av ps.length cv).ownBlock) := Lib.hid (Kd.R_ne HRW.out.row HRW.out.blk (by decide))
        have hbn : Hid (some w.heap.size ≠ (Value.slice Av ps.length cv).ownBlock) := Lib.hid (Kd.R_ne HRW.out.row B5.out (by decide))
        have hgf := blk_frozen HRW.out.blk 0
        have hpl : ps.length = es.length := HRW.out.len
        have hgb : Hid (base ≤ g) := Lib.hid HRW.out.hg
        replace hpl := Lib.hid hpl
        have hpb : ps.length ≤ 1000 := by rw [hpl.out]; exact hlen
        have hcb : base ≤ wc.heap.size := Nat.le_trans hbs HB.out.size
        go_upto_region 17 with (fail)
        go_cut [] (fun wf => ∃ v1, Hid (wf.heap[g]? = some (.cells #[v1, .map (some mb)] 88 (0, 0)) ∧ Kd.R kP 72 wf base (fun _ => True) v1 (ps ++ [w.heap.size + 1]) ∧
            (∀ (j : Nat) (y : Ent) (q : Nat), (es ++ [putE es ⟨f0, f1, l2, f3, f4, l5⟩ above ifs])[j]? = some y → (ps ++ [w.heap.size + 1])[j]? = some q → base ≤ q ∧ ∃ cells, wf.heap[q]? = some (.cells cells 77 (0, 0)) ∧ kE.M wf base (fun _ => True) y cells.toList) ∧
            ∃ D : DataW Unit, wf.ownsMap Tryd.prog 9 (plainElem Tryd.prog 3) mb es.length D ∧ MapSays D (es.map (·.c.f0))) ∧ Hid (wf.heap[w.heap.size]? = some (.cells #[.string f0, .string f1, .slice A2 l2.length c2, .int .i64 f3, .int .i64 f4, .slice A5 l5.length c5] 44 (0, 0))) ∧ Hid (Below base w wf) ∧ Hid (KeptT w wf))
        case first =>
          go_region_law (first | (refine Kd.R_append_step kP (W := wc.drew) (w0 := wc) base (by rfl) (.tmp 89) (.tmp 91) 86 72 (.pointer none) 8 (by rfl) Tryd.underlying86 info_P rfl (by decide) (by omega) _ ps (w.heap.size + 1) [ptrE (w.heap.size + 1)] (fun _ => True) (fun _ => False) (by rfl) (by rfl) rfl (fun _ h => h.elim) (fun _ _ => trivial) (Kd.R_below HRW.out.row (below_drew1 (Below.refl _ _))) (below_drew1 (Below.refl _ _)) hcb (by omega) ?_; intro v1 w2 h1 h2 h3 h4; obtain ⟨A9, c9, rfl⟩ := Kd.R_slice h1; rw [show (ps ++ [w.heap.size + 1]).length = ps.length + 1 by simp] at h1; replace h1 := Lib.hid h1; replace h2 := Lib.hid h2; replace h3 := Lib.hid h3; have kx := (h3.out.frozen_far ⟨g, 0, none⟩ hgl2 hgn.out).trans hgf; have qx := (h3.out.cell_far ⟨g, 0, none⟩ hgl2 hgn.out).trans hg0; clear h4))
          all_goals have NW := Lib.hid (WIn.push (w := wc.drew) (HRW.out.below (below_drew1 (Below.refl _ _))) h3.out h1.out (x := putE es ⟨f0, f1, l2, f3, f4, l5⟩ above ifs) PE.out
            (kE_mkM wc.drew base (fun _ => True) (putE es ⟨f0, f1, l2, f3, f4, l5⟩ above ifs) (Kd.R_below HR2.out (below_drew1 HB.out)) (Kd.R_below HR5.out (below_drew1 HB.out)) (Kd.R_lower (Kd.R_below R8.out (below_drew1 (Below.refl _ _))) hbs)) (by omega))
          all_goals have NB := Lib.hid (blk_far (p := ⟨g, 0, none⟩) (blk_grown (w := wc.drew) B5.out h3.out hbn.out) (by show w.heap.size ≠ g; omega) (.slice A9 (ps.length + 1) c9))
          all_goals have NC := Lib.hid (((HB.out.mono hbs).trans h2.out).setCell (p := ⟨g, 0, none⟩) hgb.out (.slice A9 (ps.length + 1) c9))
          all_goals have NK : Hid (KeptT w (w2.setCell ⟨g, 0, none⟩ (.slice A9 (ps.length + 1) c9))) := Lib.hid (fun k cells t hk ht1 ht2 => by
            have hk1 := blk_below hk HB.out
            exact blk_far (p := ⟨g, 0, none⟩) (blk_grown (w := wc.drew) hk1 h3.out (Kd.R_ne HRW.out.row hk1 (Ne.symm ht2))) (blk_ne hk1 HRW.out.blk ht1) _)
          all_goals clear h1 h2 h3 kx qx
          all_goals go_wp2
          all_goals go_meet
          all_goals (case rel => exact ⟨_, NW, NB, NC, NK⟩)
        case rest =>
          obtain ⟨v1, NW, B5, HB, HK⟩ := hcut
          obtain ⟨hblk, hrow, hent, D, hD, hDs⟩ := NW.out
          have hmx : es.length < maxLen := by unfold maxLen; omega
          obtain ⟨w3, hrun, hD3, hgr⟩ := World.ownsMap.update (w := wc.drew) hD.drew (Maps.string_keyed Tryd.underlying9) Tryd.underlying85 hmx (Go.WideMaps.keyOf_string_mk Tryd.underlying9 hs) (plainElem_int Tryd.underlying3 (WalkArith.wf_i64 (n := (ps.length : Int)) (by omega)))
          have q1 : wc.cell? ⟨g, 1, none⟩ = some (.map (some mb)) := (blk_cell hblk 1).trans rfl
          have q5 : wc.cell? ⟨w.heap.size, 0, none⟩ = some (.string f0) := (blk_cell B5.out 0).trans rfl
          obtain ⟨es1, clock, hbk, _⟩ := id hD
          rw [hpl.out] at hD3
          have hfin : Hid (WIn w3 base g v1 mb (ps ++ [w.heap.size + 1]) (es ++ [putE es ⟨f0, f1, l2, f3, f4, l5⟩ above ifs])) := Lib.hid (by
            have hb := below_drew1 (Below.refl wc.heap.size wc)
            refine WIn.mapped (W := wc.drew) hgb.out hblk (Kd.R_below hrow hb) (by simp [hpl.out]) (fun j y q hy hq => ?_) H.out.mbl (es1 := es1) (clock := clock) hbk hgr (by rw [List.length_append]; exact hD3) ?_
            · obtain ⟨h1, cs, h2, h3⟩ := hent j y q hy hq
              exact ⟨h1, cs, h2, Kd.M_below h3 hb⟩
            · rw [List.map_append]
              have := MapSays.put hDs f0 HN.out
              rw [List.length_map] at this
              exact this)
          have hbw : Hid (Below base w w3) := Lib.hid ((below_drew1 HB.out).grown hgr (Nat.le_trans hbs HB.out.size) (fun k hk => by injection hk with hk; rw [← hk]; exact H.out.mbl))
          have hkt : Hid (KeptT w w3) := Lib.hid (fun k cells t hk ht1 ht2 => by
            have hk1 := HK.out k cells t hk ht1 ht2
            refine (hgr.block k (blk_lt (w := wc.drew) hk1) (fun e => ?_)).trans hk1
            injection e with e
            subst e
            rw [hk1] at hbk
            cases hbk)
          clear NW hblk hrow hent hD hDs hD3 hgr hbk HB B5 HK
          go_wp2
          go_region
          all_goals go_wp2
          all_goals go_ret
          all_goals exact ⟨show Ending.returned (Value.int .i64 ((ps.length : Nat) : Int)) = _ by rw [hpl.out], _, _, hfin.out, hbw.out, hkt.out⟩
end Go.Proofs.YtmlifggklaeieaaDoor.Hi

/- Queries of a world of classes: IsIface, ByName. -/
namespace Go.Proofs.YtmlifggklaeieaaDoor.Hi
open Go Go.RowKit Go.Proofs.YtmlifggklaeieaaDoorW.PrintWords Go.Proofs.YtmlifggklaeieaaDoorW.PrintLast Go.Proofs.YtmlifggklaeieaaDoorW.PrintMore Go.Proofs.YtmlifggklaeieaaDoor.Pt
set_option linter.unusedVariables false
set_option linter.unusedSimpArgs false
set_option maxHeartbeats 2000000
set_option maxRecDepth 100000

/-- at, of a number that is one. -/
theorem at_in {w : World} {g : Nat} {es : List Ent} (hq : WOK w g es) {i : Int} (h0 : 0 ≤ i) (h1 : i < es.length) : ∃ p A2 c2 A5 c5 A8 c8,
      w.heap[p]? = some (.cells #[.string (ent es i).c.f0, .string (ent es i).c.f1, .slice A2 (ent es i).c.f2.length c2, .int .i64 (ent es i).c.f3, .int .i64 (ent es i).c.f4, .slice A5 (ent es i).c.f5.length c5, .int .i64 (ent es i).above, .int .i64 (ent es i).depth, .slice A8 (ent es i).clo.length c8] 77 (0, 0)) ∧
      (ent es i).c.f2.length ≤ c2 ∧ Kd.C Kd.string w A2 (ent es i).c.f2.length (ent es i).c.f2 ∧ (ent es i).c.f5.length ≤ c5 ∧ Kd.C k51 w A5 (ent es i).c.f5.length (ent es i).c.f5 ∧ (ent es i).clo.length ≤ c8 ∧ (∃ base, Kd.R (Kd.int .i64) 3 w base (fun _ => True) (.slice A8 (ent es i).clo.length c8) (ent es i).clo) ∧
      ∀ W, Below w.heap.size w W → Calls Tryd.prog 32 #[.pointer (some ⟨g, 0, none⟩), .int .i64 i] W fun e w' => e = .returned (.pointer (some ⟨p, 0, none⟩)) ∧ Below W.heap.size W w' := by
  obtain ⟨⟨base, v, mb, ps, h⟩, hf, ht, hlen⟩ := hq
  have hl := h.len
  have hx := get_ent h0 h1
  have hp : ps[i.toNat]? = some (ps.getD i.toNat 0) := by
    rw [List.getD_eq_getElem?_getD, List.getElem?_eq_getElem (by omega)]; rfl
  obtain ⟨_, cells, hb, hM⟩ := h.ent _ _ _ hx hp
  obtain ⟨_, _, e1, hc, ⟨_, _, e2, e2', ⟨_, _, e3, e3', ⟨v8, e4, R8⟩⟩⟩⟩ := hM
  have hC := k44.K_of_M hc
  obtain ⟨A2, c2, A5, c5, e5, l2, g2, l5, g5⟩ := k44_open hC
  obtain ⟨A8, c8, e6, l8, _⟩ := Kd.R_reads R8
  subst e6
  have hcs : cells = #[.string (ent es i).c.f0, .string (ent es i).c.f1, .slice A2 (ent es i).c.f2.length c2, .int .i64 (ent es i).c.f3, .int .i64 (ent es i).c.f4, .slice A5 (ent es i).c.f5.length c5, .int .i64 (ent es i).above, .int .i64 (ent es i).depth, .slice A8 (ent es i).clo.length c8] := by
    apply Array.toList_inj.1
    rw [e1, e5, e2, e3, e4, e2', e3']
    rfl
  rw [hcs] at hb
  refine ⟨ps.getD i.toNat 0, A2, c2, A5, c5, A8, c8, hb, l2, g2, l5, g5, l8, ⟨base, R8⟩, fun W hW => ?_⟩
  have := at_any W base g v mb ps es (h.below hW) i
  rwa [show atP ps i = .pointer (some ⟨ps.getD i.toNat 0, 0, none⟩) from if_pos ⟨h0, by omega⟩] at this
theorem at_out {w : World} {g : Nat} {es : List Ent} (hq : WOK w g es) {i : Int} (h : ¬ (0 ≤ i ∧ i < es.length)) :
    ∀ W, Below w.heap.size w W → Calls Tryd.prog 32 #[.pointer (some ⟨g, 0, none⟩), .int .i64 i] W fun e w' => e = .returned (.pointer none) ∧ Below W.heap.size W w' := by
  obtain ⟨⟨base, v, mb, ps, hi⟩, hf, ht, hlen⟩ := hq
  have hl := hi.len
  intro W hW
  have := at_any W base g v mb ps es (hi.below hW) i
  rwa [show atP ps i = .pointer none from if_neg (by omega)] at this
theorem iface_any (w : World) (x0 x1 x2 x4 x5 : Value) (f3 : Int) : Calls Tryd.prog 40 #[.agg #[x0, x1, x2, .int .i64 f3, x4, x5]] w fun e w' => e = .returned (.bool (Go.bits .and .i64 f3 512 != 0)) ∧ Below w.heap.size w w' := by
  go_enter Tryd.func40, Tryd.ntmps40
  go_wp2
  go_ret
  exact ⟨rfl, (Below.refl _ _).alloc (Nat.le_refl _) _⟩
theorem isIface_any (w : World) (g : Nat) (es : List Ent) (hq : WOK w g es) (i : Int) :
    Calls Tryd.prog 27 #[.pointer (some ⟨g, 0, none⟩), .int .i64 i] w fun e w' => e = .returned (.bool (inB es i && isI (ent es i).c)) ∧ Below w.heap.size w w' := by
  by_cases hi : 0 ≤ i ∧ i < es.length
  · obtain ⟨p, A2, c2, A5, c5, A8, c8, hb, l2, g2, l5, g5, l8, R8, HA⟩ := at_in hq hi.1 hi.2
    have he : Hid (inB es i = true) := Lib.hid (decide_eq_true hi)
    have CA := Lib.hid (HA w (Below.refl _ _))
    generalize ent es i = x at *
    replace hb := Lib.hid hb
    clear HA hq l2 g2 l5 g5 l8 R8
    go_enter Tryd.func27, Tryd.ntmps27
    go_wp2_with fail
    refine CA.out.mono ?_
    rintro e w1 ⟨rfl, hb1⟩
    have D := blk_below hb.out hb1
    have p0 : w1.cell? ⟨p, 0, none⟩ = some (.string x.c.f0) := (blk_cell D 0).trans rfl
    have p1 : w1.cell? ⟨p, 1, none⟩ = some (.string x.c.f1) := (blk_cell D 1).trans rfl
    have p2 : w1.cell? ⟨p, 2, none⟩ = some (.slice A2 x.c.f2.length c2) := (blk_cell D 2).trans rfl
    have p3 : w1.cell? ⟨p, 3, none⟩ = some (.int .i64 x.c.f3) := (blk_cell D 3).trans rfl
    have p4 : w1.cell? ⟨p, 4, none⟩ = some (.int .i64 x.c.f4) := (blk_cell D 4).trans rfl
    have p5 : w1.cell? ⟨p, 5, none⟩ = some (.slice A5 x.c.f5.length c5) := (blk_cell D 5).trans rfl
    have IF := Lib.hid (iface_any w1 (.string x.c.f0) (.string x.c.f1) (.slice A2 x.c.f2.length c2) (.int .i64 x.c.f4) (.slice A5 x.c.f5.length c5) x.c.f3)
    replace hb1 := Lib.hid hb1
    clear D CA
    go_wp2_with (go_at_call 40; refine IF.out.mono ?_; rintro e w2 ⟨rfl, hb2⟩; replace hb2 := Lib.hid hb2)
    go_ret
    exact ⟨by rw [he.out]; rfl, hb1.out.trans (hb2.out.mono hb1.out.size)⟩
  · have he : Hid (inB es i = false) := Lib.hid (decide_eq_false hi)
    have CA := Lib.hid (at_out hq hi w (Below.refl _ _))
    clear hq
    go_enter Tryd.func27, Tryd.ntmps27
    go_wp2_with fail
    refine CA.out.mono ?_
    rintro e w1 ⟨rfl, hb1⟩
    replace hb1 := Lib.hid hb1
    clear CA
    go_wp2
    go_ret
    exact ⟨by rw [he.out]; rfl, hb1.out⟩
/-- What a look-up in the map of names finds. -/
theorem look_name {D : DataW Unit} {es : List Ent} (h : MapSays D (es.map (·.c.f0))) (s : ByteArray) (c : Int) (hc : D.atKey (.string s.data.toList) (.lit (.int .i64 0)) = .lit (.int .i64 c)) :
    (Maps.has D (.string s.data.toList) = true → (nameF es s).1 = c ∧ (nameF es s).2 = 0 ∧ 0 ≤ c ∧ c < es.length ∧ (ent es c).c.f0 = s) ∧ (Maps.has D (.string s.data.toList) = false → (nameF es s) = (0, 6)) := by
  obtain ⟨hm, h⟩ := h
  obtain ⟨h1, h2⟩ := h s
  unfold nameF
  cases hf : (es.map (·.c.f0)).findIdx? (fun t => decide (t = s)) with
  | some i =>
    obtain ⟨hi, hs, _⟩ := List.findIdx?_eq_some_iff_getElem.1 hf
    have hs := of_decide_eq_true hs
    have hget : (es.map (·.c.f0))[i]? = some s := by rw [List.getElem?_eq_getElem hi, hs]
    have := h2 i hget
    rw [this] at hc
    injection hc with hc
    injection hc with _ hc
    rw [List.length_map] at hi
    refine ⟨fun _ => ⟨hc, rfl, by omega, by omega, ?_⟩, fun hn => ?_⟩
    · rw [← hc]
      rw [List.getElem?_map, List.getElem?_eq_getElem hi] at hget
      have := ent_get (List.getElem?_eq_getElem hi)
      rw [this]
      simpa using hget
    · have := h1.2 (List.mem_of_getElem? hget)
      rw [hn] at this
      cases this
  | none =>
    refine ⟨fun hy => ?_, fun _ => rfl⟩
    have := h1.1 hy
    rw [List.findIdx?_eq_none_iff] at hf
    have := hf s this
    simp at this
theorem zeroInt (w : World) : (zeroValue 3).run Tryd.prog w = .ok (.int .i64 0) w := by kernel_rfl
theorem byName_any (w : World) (g : Nat) (es : List Ent) (hq : WOK w g es) (s : ByteArray) (hs : s.size ≤ 9223372036854775807) :
    Calls Tryd.prog 25 #[.pointer (some ⟨g, 0, none⟩), .string s] w fun e w' => e = .returned (.tuple #[.int .i64 (nameF es s).1, .int .i64 (nameF es s).2]) ∧ Below w.heap.size w w' := by
  obtain ⟨⟨base, v, mb, ps, h⟩, hf, ht, hlen⟩ := hq
  obtain ⟨D, hD, hS⟩ := h.map
  have q1 : w.cell? ⟨g, 1, none⟩ = some (.map (some mb)) := (blk_cell h.blk 1).trans rfl
  replace hS := Lib.hid hS
  replace hD := Lib.hid hD
  clear h hf ht
  cases hh : Maps.has D (.string s.data.toList)
  · have LN := Lib.hid (fun c hc => (look_name hS.out s c hc).2 hh)
    go_enter Tryd.func25, Tryd.ntmps25
    go_wp2_with (at_lookup; refine wpList_lookup_own_ok_int _ rfl _ _ 85 rfl 9 3 .i64 (Maps.string_keyed Tryd.underlying9) Tryd.underlying85 Tryd.underlying3 (zeroInt _) mb es.length D rfl hD.out _ _ rfl (Go.WideMaps.keyOf_string_mk Tryd.underlying9 hs) ?_; intro c hat hwc; replace hat := Lib.hid hat; clear hwc)
    all_goals go_ret2
    all_goals have e1 := LN.out c hat.out
    all_goals exact ⟨(by rw [e1]; rfl), Below.refl _ _⟩
  · have LN := Lib.hid (fun c hc => (look_name hS.out s c hc).1 hh)
    go_enter Tryd.func25, Tryd.ntmps25
    go_wp2_with (at_lookup; refine wpList_lookup_own_ok_int _ rfl _ _ 85 rfl 9 3 .i64 (Maps.string_keyed Tryd.underlying9) Tryd.underlying85 Tryd.underlying3 (zeroInt _) mb es.length D rfl hD.out _ _ rfl (Go.WideMaps.keyOf_string_mk Tryd.underlying9 hs) ?_; intro c hat hwc; replace hat := Lib.hid hat; clear hwc)
    all_goals go_ret2
    all_goals obtain ⟨e1, e2, _⟩ := LN.out c hat.out
    all_goals exact ⟨(by rw [e1, e2]; rfl), Below.refl _ _⟩
end Go.Proofs.YtmlifggklaeieaaDoor.Hi

/- Queries of a world of classes: SamePackage. -/
namespace Go.Proofs.YtmlifggklaeieaaDoor.Hi
open Go Go.RowKit Go.Proofs.YtmlifggklaeieaaDoor.Nm Go.Proofs.YtmlifggklaeieaaDoorW.PrintWords Go.Proofs.YtmlifggklaeieaaDoorW.PrintLast Go.Proofs.YtmlifggklaeieaaDoorW.PrintMore Go.Proofs.YtmlifggklaeieaaDoor.Pt
set_option linter.unusedVariables false
set_option linter.unusedSimpArgs false
set_option maxHeartbeats 2000000
set_option maxRecDepth 100000

/-- Two classes of one run-time package. -/
def tog (a b : S44) : Bool := a.f4 == b.f4 && ((pkgB a.f0).toList == (pkgB b.f0).toList)
theorem together_any (w : World) (x y : S44) (v1 v2 v5 u1 u2 u5 : Value) (x3 y3 : Value) (hx : x.f0.size < 4611686018427387904) (hy : y.f0.size < 4611686018427387904) :
    Calls Tryd.prog 34 #[.agg #[.string x.f0, v1, v2, x3, .int .i64 x.f4, v5], .agg #[.string y.f0, u1, u2, y3, .int .i64 y.f4, u5]] w fun e w' => e = .returned (.bool (tog x y)) ∧ Below w.heap.size w w' := by
  have PX := Lib.hid (package_any x.f0 hx)
  have PY := Lib.hid (package_any y.f0 hy)
  by_cases h4 : x.f4 = y.f4
  · have e4 : (x.f4 == y.f4) = true := beq_iff_eq.2 h4
    have hT : Hid (tog x y = ((pkgB x.f0).toList == (pkgB y.f0).toList)) := Lib.hid (by unfold tog; rw [e4]; rfl)
    clear h4
    go_enter Tryd.func34, Tryd.ntmps34
    go_wp2
    go_quiet (first | (go_at_call 39; exact Calls.quiet_of_same (PX.out _)) | (go_at_call 39; exact Calls.quiet_of_same (PY.out _)))
    go_wp2
    go_ret
    exact ⟨by rw [hT.out]; rfl, by repeat (first | exact Below.refl _ _ | apply pw_below_drewN | apply below_drew1 | refine below_alloc ?_ _)⟩
  · have e4 : (x.f4 == y.f4) = false := beq_eq_false_iff_ne.2 h4
    have hT : Hid (tog x y = false) := Lib.hid (by unfold tog; rw [e4]; rfl)
    go_enter Tryd.func34, Tryd.ntmps34
    go_wp2
    go_region
    all_goals go_wp2
    all_goals go_ret
    all_goals exact ⟨by rw [hT.out]; rfl, by repeat (first | exact Below.refl _ _ | apply below_drew1 | refine below_alloc ?_ _)⟩
theorem samePackage_any (w : World) (g : Nat) (es : List Ent) (hq : WOK w g es) (a b : Int) :
    Calls Tryd.prog 20 #[.pointer (some ⟨g, 0, none⟩), .int .i64 a, .int .i64 b] w fun e w' => e = .returned (.bool (inB es a && inB es b && tog (ent es a).c (ent es b).c)) ∧ Below w.heap.size w w' := by
  by_cases ha : 0 ≤ a ∧ a < es.length
  · have ea : Hid (inB es a = true) := Lib.hid (decide_eq_true ha)
    obtain ⟨p, A2, c2, A5, c5, A8, c8, hp, _, _, _, _, _, _, HA⟩ := at_in hq ha.1 ha.2
    by_cases hb : 0 ≤ b ∧ b < es.length
    · have eb : Hid (inB es b = true) := Lib.hid (decide_eq_true hb)
      obtain ⟨q, B2, d2, B5, d5, B8, d8, hpq, _, _, _, _, _, _, HB⟩ := at_in hq hb.1 hb.2
      have sx : (ent es a).c.f0.size < 4611686018427387904 := (hq.fine _ (List.mem_of_getElem? (get_ent ha.1 ha.2))).2.1
      have sy : (ent es b).c.f0.size < 4611686018427387904 := (hq.fine _ (List.mem_of_getElem? (get_ent hb.1 hb.2))).2.1
      generalize ent es a = x at *
      generalize ent es b = y at *
      replace hp := Lib.hid hp
      replace hpq := Lib.hid hpq
      replace HA := Lib.hid HA
      replace HB := Lib.hid HB
      clear hq ha hb
      have CA := Lib.hid (HA.out w (Below.refl _ _))
      go_enter Tryd.func20, Tryd.ntmps20
      go_wp2_with fail
      refine CA.out.mono ?_
      rintro e w1 ⟨rfl, hb1⟩
      have CB := Lib.hid (HB.out w1 hb1)
      replace hb1 := Lib.hid hb1
      go_wp2_with fail
      refine CB.out.mono ?_
      rintro e w2 ⟨rfl, hb2⟩
      have hbw := Lib.hid (hb1.out.trans (hb2.mono hb1.out.size))
      have D := blk_below hp.out hbw.out
      have E := blk_below hpq.out hbw.out
      have p0 : w2.cell? ⟨p, 0, none⟩ = some (.string x.c.f0) := (blk_cell D 0).trans rfl
      have p1 : w2.cell? ⟨p, 1, none⟩ = some (.string x.c.f1) := (blk_cell D 1).trans rfl
      have p2 : w2.cell? ⟨p, 2, none⟩ = some (.slice A2 x.c.f2.length c2) := (blk_cell D 2).trans rfl
      have p3 : w2.cell? ⟨p, 3, none⟩ = some (.int .i64 x.c.f3) := (blk_cell D 3).trans rfl
      have p4 : w2.cell? ⟨p, 4, none⟩ = some (.int .i64 x.c.f4) := (blk_cell D 4).trans rfl
      have p5 : w2.cell? ⟨p, 5, none⟩ = some (.slice A5 x.c.f5.length c5) := (blk_cell D 5).trans rfl
      have q0 : w2.cell? ⟨q, 0, none⟩ = some (.string y.c.f0) := (blk_cell E 0).trans rfl
      have q1 : w2.cell? ⟨q, 1, none⟩ = some (.string y.c.f1) := (blk_cell E 1).trans rfl
      have q2 : w2.cell? ⟨q, 2, none⟩ = some (.slice B2 y.c.f2.length d2) := (blk_cell E 2).trans rfl
      have q3 : w2.cell? ⟨q, 3, none⟩ = some (.int .i64 y.c.f3) := (blk_cell E 3).trans rfl
      have q4 : w2.cell? ⟨q, 4, none⟩ = some (.int .i64 y.c.f4) := (blk_cell E 4).trans rfl
      have q5 : w2.cell? ⟨q, 5, none⟩ = some (.slice B5 y.c.f5.length d5) := (blk_cell E 5).trans rfl
      have TG := Lib.hid (fun W => together_any W x.c y.c (.string x.c.f1) (.slice A2 x.c.f2.length c2) (.slice A5 x.c.f5.length c5) (.string y.c.f1) (.slice B2 y.c.f2.length d2) (.slice B5 y.c.f5.length d5) (.int .i64 x.c.f3) (.int .i64 y.c.f3) sx sy)
      clear CA CB hb1 hb2 D E HA HB
      go_wp2
      go_region_held3 (fun w' => w'.cell? ⟨p, 0, none⟩ = some (.string x.c.f0) ∧ w'.cell? ⟨p, 1, none⟩ = some (.string x.c.f1) ∧ w'.cell? ⟨p, 2, none⟩ = some (.slice A2 x.c.f2.length c2) ∧ w'.cell? ⟨p, 3, none⟩ = some (.int .i64 x.c.f3) ∧ w'.cell? ⟨p, 4, none⟩ = some (.int .i64 x.c.f4) ∧ w'.cell? ⟨p, 5, none⟩ = some (.slice A5 x.c.f5.length c5) ∧
        w'.cell? ⟨q, 0, none⟩ = some (.string y.c.f0) ∧ w'.cell? ⟨q, 1, none⟩ = some (.string y.c.f1) ∧ w'.cell? ⟨q, 2, none⟩ = some (.slice B2 y.c.f2.length d2) ∧ w'.cell? ⟨q, 3, none⟩ = some (.int .i64 y.c.f3) ∧ w'.cell? ⟨q, 4, none⟩ = some (.int .i64 y.c.f4) ∧ w'.cell? ⟨q, 5, none⟩ = some (.slice B5 y.c.f5.length d5)) (first | go_keep | (refine ⟨?_, ?_, ?_, ?_, ?_, ?_, ?_, ?_, ?_, ?_, ?_, ?_⟩ <;> exact pw_cell_below hb3.out (by assumption)))
        (first | (go_at_call 34; refine (TG.out _).mono ?_; rintro e w3 ⟨rfl, hb3⟩; replace hb3 := Lib.hid hb3))
      go_wp2
      go_ret
      exact ⟨by rw [ea.out, eb.out]; rfl, hbw.out.trans ((below_drew1 (Below.refl _ _)).trans (hb3.out.mono (Nat.le_refl _)) |>.mono hbw.out.size)⟩
    · have eb : Hid (inB es b = false) := Lib.hid (decide_eq_false hb)
      have HB := Lib.hid (at_out hq hb)
      replace HA := Lib.hid HA
      clear hq ha hb hp
      have CA := Lib.hid (HA.out w (Below.refl _ _))
      go_enter Tryd.func20, Tryd.ntmps20
      go_wp2_with fail
      refine CA.out.mono ?_
      rintro e w1 ⟨rfl, hb1⟩
      have CB := Lib.hid (HB.out w1 hb1)
      replace hb1 := Lib.hid hb1
      go_wp2_with fail
      refine CB.out.mono ?_
      rintro e w2 ⟨rfl, hb2⟩
      have hbw := Lib.hid (hb1.out.trans (hb2.mono hb1.out.size))
      clear CA CB hb1 hb2 HA HB
      go_wp2
      go_region
      all_goals go_wp2
      all_goals go_ret
      all_goals exact ⟨by rw [ea.out, eb.out]; rfl, below_drew1 hbw.out⟩
  · have ea : Hid (inB es a = false) := Lib.hid (decide_eq_false ha)
    have HA := Lib.hid (at_out hq ha)
    obtain ⟨pv, HB⟩ : ∃ pv : Option Nat, ∀ W, Below w.heap.size w W → Calls Tryd.prog 32 #[.pointer (some ⟨g, 0, none⟩), .int .i64 b] W fun e w' => e = .returned (.pointer (pv.map fun p => ⟨p, 0, none⟩)) ∧ Below W.heap.size W w' := by
      by_cases hb : 0 ≤ b ∧ b < es.length
      · obtain ⟨q, B2, d2, B5, d5, B8, d8, hpq, _, _, _, _, _, _, HB⟩ := at_in hq hb.1 hb.2
        exact ⟨some q, HB⟩
      · exact ⟨none, at_out hq hb⟩
    replace HB := Lib.hid HB
    clear hq ha
    have CA := Lib.hid (HA.out w (Below.refl _ _))
    go_enter Tryd.func20, Tryd.ntmps20
    go_wp2_with fail
    refine CA.out.mono ?_
    rintro e w1 ⟨rfl, hb1⟩
    have CB := Lib.hid (HB.out w1 hb1)
    replace hb1 := Lib.hid hb1
    go_wp2_with fail
    refine CB.out.mono ?_
    rintro e w2 ⟨rfl, hb2⟩
    have hbw := Lib.hid (hb1.out.trans (hb2.mono hb1.out.size))
    clear CA CB hb1 hb2 HA HB
    go_wp2
    go_region
    all_goals go_wp2
    all_goals go_ret
    all_goals exact ⟨by rw [ea.out]; rfl, below_drew1 hbw.out⟩
end Go.Proofs.YtmlifggklaeieaaDoor.Hi

/- hier.World.Method: the method of a number. -/
namespace Go.Proofs.YtmlifggklaeieaaDoor.Hi
open Go Go.RowKit Go.Proofs.YtmlifggklaeieaaDoorW.PrintWords Go.Proofs.YtmlifggklaeieaaDoorW.PrintLast Go.Proofs.YtmlifggklaeieaaDoorW.PrintMore Go.Proofs.YtmlifggklaeieaaDoor.Pt
set_option linter.unusedVariables false
set_option linter.unusedSimpArgs false
set_option maxHeartbeats 2000000
set_option maxRecDepth 100000

/-- Is it the number of a method? -/
def inM (es : List Ent) (c i : Int) : Bool := inB es c && decide (0 ≤ i ∧ i < (ent es c).c.f5.length)
def methF (es : List Ent) (c i : Int) : S51 × Int := if inM es c i then (rd_T51 (ent es c).c.f5 i, 0) else (z51, 3)
theorem method_in (w : World) (g : Nat) (es : List Ent) (hq : WOK w g es) (mc mi : Int) (h0 : 0 ≤ mc) (h1 : mc < es.length) (i0 : 0 ≤ mi) (i1 : mi < (ent es mc).c.f5.length) :
    Calls Tryd.prog 21 #[.pointer (some ⟨g, 0, none⟩), .agg #[.int .i64 mc, .int .i64 mi]] w fun e w' => ∃ v5, e = .returned (.tuple #[.agg #[.string (methF es mc mi).1.f0, .string (methF es mc mi).1.f1, .int .i64 (methF es mc mi).1.f2, .int .i64 (methF es mc mi).1.f3, .int .i64 (methF es mc mi).1.f4, v5], .int .i64 (methF es mc mi).2]) ∧ Kd.R k83 83 w' w.heap.size (fun _ => True) v5 (methF es mc mi).1.f5 ∧ Below w.heap.size w w' := by
  obtain ⟨p, A2, c2, A5, c5, A8, c8, hp, _, _, hl5, g5, _, _, HA⟩ := at_in hq h0 h1
  have hM : Hid (methF es mc mi = (rd_T51 (ent es mc).c.f5 mi, 0)) := Lib.hid (if_pos (by simp [inM, inB, h0, h1, i0, i1]))
  have hsh := Lib.hid ((hq.small _ (List.mem_of_getElem? (get_ent h0 h1))).2.2 (rd_T51 (ent es mc).c.f5 mi) (by
    unfold rd_T51
    rw [List.getD_eq_getElem?_getD, List.getElem?_eq_getElem (by omega)]
    exact List.getElem_mem _))
  rw [hM.out]
  generalize ent es mc = x at *
  obtain ⟨ad, A6, c6, rfl, m0, m1, m2, m3, m4, m5, hl6, g6⟩ := at_T51 g5 mi i0 i1
  generalize rd_T51 x.c.f5 mi = y at *
  have T := Lib.hid (heap_alloc2_old w (.cells #[.int .i64 mc, .int .i64 mi] 31) (.cells #[.string ⟨#[]⟩, .string ⟨#[]⟩, .int .i64 0, .int .i64 0, .int .i64 0, .slice none 0 0] 51))
  have U := Lib.hid (heap_alloc2_new w (.cells #[.int .i64 mc, .int .i64 mi] 31) (.cells #[.string ⟨#[]⟩, .string ⟨#[]⟩, .int .i64 0, .int .i64 0, .int .i64 0, .slice none 0 0] 51))
  have BB := Lib.hid (((Below.refl w.heap.size w).alloc (Nat.le_refl _) (.cells #[.int .i64 mc, .int .i64 mi] 31)).alloc (by simp) (.cells #[.string ⟨#[]⟩, .string ⟨#[]⟩, .int .i64 0, .int .i64 0, .int .i64 0, .slice none 0 0] 51))
  have CA := Lib.hid (HA _ BB.out)
  have hUs := Lib.hid (blk_lt U.out)
  have hpl : p < w.heap.size := blk_lt hp
  have hadl : ad.block < w.heap.size := by
    have := World.block_lt_of_cell? _ _ m0
    rwa [add_block] at this
  replace hp := Lib.hid hp
  have HM := Lib.hid (And.intro m0 (And.intro m1 (And.intro m2 (And.intro m3 (And.intro m4 m5)))))
  replace g6 := Lib.hid g6
  have hd0 : decide (mi < 0) = false := decide_eq_false (by omega)
  have hd1 : decide (mi ≥ (x.c.f5.length : Int)) = false := decide_eq_false (by omega)
  clear HA hq g5 m0 m1 m2 m3 m4 m5
  go_enter Tryd.func21, Tryd.ntmps21
  go_wp2_with fail
  refine CA.out.mono ?_
  rintro e w1 ⟨rfl, hb1⟩
  have hbw := Lib.hid (BB.out.trans (hb1.mono BB.out.size))
  have hUs := Lib.hid (Nat.lt_of_lt_of_le hUs.out hb1.size)
  have D := blk_below T.out hb1
  have E := blk_below U.out hb1
  have P := blk_below hp.out hbw.out
  have q0 : w1.cell? ⟨w.heap.size, 0, none⟩ = some (.int .i64 mc) := (blk_cell D 0).trans rfl
  have q1 : w1.cell? ⟨w.heap.size, 1, none⟩ = some (.int .i64 mi) := (blk_cell D 1).trans rfl
  have p5 : w1.cell? ⟨p, 5, none⟩ = some (.slice (some ad) x.c.f5.length c5) := (blk_cell P 5).trans rfl
  have D := Lib.hid D
  have E := Lib.hid E
  clear CA hb1 P T U BB
  go_wp2
  go_region
  go_wp2_with fail
  obtain ⟨m0, m1, m2, m3, m4, m5⟩ := HM.out
  replace hbw := Lib.hid (below_drew1 hbw.out)
  have D := Lib.hid (blk_drew D.out)
  have E := Lib.hid (blk_drew E.out)
  have q1 : w1.drew.cell? ⟨w.heap.size, 1, none⟩ = some (.int .i64 mi) := q1
  have p5 : w1.drew.cell? ⟨p, 5, none⟩ = some (.slice (some ad) x.c.f5.length c5) := p5
  have hWs : Hid (w.heap.size + 1 < w1.drew.heap.size) := Lib.hid hUs.out
  clear hUs
  generalize w1.drew = W at *
  replace m0 := pw_cell_below hbw.out m0
  replace m1 := pw_cell_below hbw.out m1
  replace m2 := pw_cell_below hbw.out m2
  replace m3 := pw_cell_below hbw.out m3
  replace m4 := pw_cell_below hbw.out m4
  replace m5 := pw_cell_below hbw.out m5
  have n1 := World.new_ne W _ q1
  have n2 := World.new_ne W _ p5
  have n3 := World.new_ne W _ m0
  have i1b : mi < (x.c.f5.length : Int) := i1
  clear q0 hd0 hd1
  go_region_held3 (fun w' => w'.cell? ⟨w.heap.size, 1, none⟩ = some (.int .i64 mi) ∧ w'.cell? ⟨p, 5, none⟩ = some (.slice (some ad) x.c.f5.length c5) ∧ w'.cell? (ad.add (mi.toNat * 6)) = some (.string y.f0) ∧ w'.cell? ⟨(ad.add (mi.toNat * 6)).block, (ad.add (mi.toNat * 6)).off + 1, none⟩ = some (.string y.f1) ∧ w'.cell? ⟨(ad.add (mi.toNat * 6)).block, (ad.add (mi.toNat * 6)).off + 2, none⟩ = some (.int .i64 y.f2) ∧
      w'.cell? ⟨(ad.add (mi.toNat * 6)).block, (ad.add (mi.toNat * 6)).off + 3, none⟩ = some (.int .i64 y.f3) ∧ w'.cell? ⟨(ad.add (mi.toNat * 6)).block, (ad.add (mi.toNat * 6)).off + 4, none⟩ = some (.int .i64 y.f4) ∧ w'.cell? ⟨(ad.add (mi.toNat * 6)).block, (ad.add (mi.toNat * 6)).off + 5, none⟩ = some (.slice A6 y.f5.length c6)) (go_keep) (fail)
  have X := Lib.hid (blk_drew (blk_new W (.cells #[.string y.f0, .string y.f1, .int .i64 y.f2, .int .i64 y.f3, .int .i64 y.f4, .slice A6 y.f5.length c6] 51)))
  have AB : Hid (Below W.heap.size W (W.alloc (.cells #[.string y.f0, .string y.f1, .int .i64 y.f2, .int .i64 y.f3, .int .i64 y.f4, .slice A6 y.f5.length c6] 51)).drew) := Lib.hid (below_drew1 ((Below.refl _ _).alloc (Nat.le_refl _) _))
  generalize (W.alloc (.cells #[.string y.f0, .string y.f1, .int .i64 y.f2, .int .i64 y.f3, .int .i64 y.f4, .slice A6 y.f5.length c6] 51)).drew = V at *
  have hbv := Lib.hid (hbw.out.trans (AB.out.mono hbw.out.size))
  have E := Lib.hid (blk_below E.out AB.out)
  have CL := Lib.hid (cloneInst A6 c6 y.f5 V (Kd.C_below g6.out hbv.out) hsh.out)
  have x5 : V.cell? ⟨W.heap.size, 5, none⟩ = some (.slice A6 y.f5.length c6) := (blk_cell X.out 5).trans rfl
  clear m0 m1 m2 m3 m4 m5 n1 n2 n3 q1 p5 D AB
  go_wp2_with fail
  refine CL.out.mono ?_
  rintro e V1 ⟨v5, rfl, R5, hb3⟩
  obtain ⟨A7, c7, rfl⟩ := Kd.R_slice R5
  have X1 := blk_below X.out hb3
  have E1 := blk_below E.out hb3
  have hb4 := hbv.out.trans (hb3.mono hbv.out.size)
  have x0 : V1.cell? ⟨W.heap.size, 0, none⟩ = some (.string y.f0) := (blk_cell X1 0).trans rfl
  have x1 : V1.cell? ⟨W.heap.size, 1, none⟩ = some (.string y.f1) := (blk_cell X1 1).trans rfl
  have x2 : V1.cell? ⟨W.heap.size, 2, none⟩ = some (.int .i64 y.f2) := (blk_cell X1 2).trans rfl
  have x3 : V1.cell? ⟨W.heap.size, 3, none⟩ = some (.int .i64 y.f3) := (blk_cell X1 3).trans rfl
  have x4 : V1.cell? ⟨W.heap.size, 4, none⟩ = some (.int .i64 y.f4) := (blk_cell X1 4).trans rfl
  have x5 : V1.cell? ⟨W.heap.size, 5, none⟩ = some (.slice A6 y.f5.length c6) := (blk_cell X1 5).trans rfl
  have xf := blk_frozen X1 5
  have z0 : V1.cell? ⟨w.heap.size + 1, 0, none⟩ = some (.string ⟨#[]⟩) := (blk_cell E1 0).trans rfl
  have z1 : V1.cell? ⟨w.heap.size + 1, 1, none⟩ = some (.string ⟨#[]⟩) := (blk_cell E1 1).trans rfl
  have z2 : V1.cell? ⟨w.heap.size + 1, 2, none⟩ = some (.int .i64 0) := (blk_cell E1 2).trans rfl
  have z3 : V1.cell? ⟨w.heap.size + 1, 3, none⟩ = some (.int .i64 0) := (blk_cell E1 3).trans rfl
  have z4 : V1.cell? ⟨w.heap.size + 1, 4, none⟩ = some (.int .i64 0) := (blk_cell E1 4).trans rfl
  have z5 : V1.cell? ⟨w.heap.size + 1, 5, none⟩ = some (.slice none 0 0) := (blk_cell E1 5).trans rfl
  have f0 := blk_frozen E1 0
  have f1 := blk_frozen E1 1
  have f2 := blk_frozen E1 2
  have f3 := blk_frozen E1 3
  have f4 := blk_frozen E1 4
  have f5 := blk_frozen E1 5
  have hne : W.heap.size ≠ w.heap.size + 1 := by have := hWs.out; omega
  have E2 := blk_far (p := ⟨W.heap.size, 5, none⟩) E1 (Ne.symm hne) (.slice A7 y.f5.length c7)
  have R6 := Kd.R_set (Kd.R_lower R5 hbv.out.size) X1 (by decide) 5 (.slice A7 y.f5.length c7)
  have TX := Lib.hid (blk_set6 E2 (.string y.f0) (.string y.f1) (.int .i64 y.f2) (.int .i64 y.f3) (.int .i64 y.f4) (.slice A7 y.f5.length c7))
  have TR := Lib.hid (R_set6 R6 E2 (by decide) (.string y.f0) (.string y.f1) (.int .i64 y.f2) (.int .i64 y.f3) (.int .i64 y.f4) (.slice A7 y.f5.length c7))
  have TB := Lib.hid (below_set6 (hb4.setCell (p := ⟨W.heap.size, 5, none⟩) (by have := hWs.out; show w.heap.size ≤ W.heap.size; omega) (.slice A7 y.f5.length c7)) (g := w.heap.size + 1) (Nat.le_succ _) (.string y.f0) (.string y.f1) (.int .i64 y.f2) (.int .i64 y.f3) (.int .i64 y.f4) (.slice A7 y.f5.length c7))
  clear X1 E1 E2 R6 R5 hb3 hb4 CL
  go_wp2
  exact bodyPost_ret (results_ct rfl _ _ (w.heap.size + 1) 51 _ (0, 0) _ rfl TX.out Tryd.underlying51 rfl (by kernel_rfl)) rfl ⟨_, rfl, TR.out, TB.out⟩
theorem method_out (w : World) (g : Nat) (es : List Ent) (hq : WOK w g es) (mc mi : Int) (hno : inM es mc mi = false) :
    Calls Tryd.prog 21 #[.pointer (some ⟨g, 0, none⟩), .agg #[.int .i64 mc, .int .i64 mi]] w fun e w' => ∃ v5, e = .returned (.tuple #[.agg #[.string (methF es mc mi).1.f0, .string (methF es mc mi).1.f1, .int .i64 (methF es mc mi).1.f2, .int .i64 (methF es mc mi).1.f3, .int .i64 (methF es mc mi).1.f4, v5], .int .i64 (methF es mc mi).2]) ∧ Kd.R k83 83 w' w.heap.size (fun _ => True) v5 (methF es mc mi).1.f5 ∧ Below w.heap.size w w' := by
  have hM : Hid (methF es mc mi = (z51, 3)) := Lib.hid (by unfold methF; rw [hno]; rfl)
  rw [hM.out]
  have T := Lib.hid (heap_alloc2_old w (.cells #[.int .i64 mc, .int .i64 mi] 31) (.cells #[.string ⟨#[]⟩, .string ⟨#[]⟩, .int .i64 0, .int .i64 0, .int .i64 0, .slice none 0 0] 51))
  have U := Lib.hid (heap_alloc2_new w (.cells #[.int .i64 mc, .int .i64 mi] 31) (.cells #[.string ⟨#[]⟩, .string ⟨#[]⟩, .int .i64 0, .int .i64 0, .int .i64 0, .slice none 0 0] 51))
  have BB := Lib.hid (((Below.refl w.heap.size w).alloc (Nat.le_refl _) (.cells #[.int .i64 mc, .int .i64 mi] 31)).alloc (by simp) (.cells #[.string ⟨#[]⟩, .string ⟨#[]⟩, .int .i64 0, .int .i64 0, .int .i64 0, .slice none 0 0] 51))
  by_cases hc : 0 ≤ mc ∧ mc < es.length
  · obtain ⟨p, A2, c2, A5, c5, A8, c8, hp, _, _, hl5, g5, _, _, HA⟩ := at_in hq hc.1 hc.2
    have hx : ¬ (0 ≤ mi ∧ mi < ((ent es mc).c.f5.length : Int)) := by simpa [inM, inB, hc.1, hc.2] using hno
    generalize ent es mc = x at *
    have CA := Lib.hid (HA _ BB.out)
    replace hp := Lib.hid hp
    clear HA hq g5 hno
    by_cases hi : mi < 0
    · have hd0 : decide (mi < 0) = true := decide_eq_true hi
      clear hx
      go_enter Tryd.func21, Tryd.ntmps21
      go_wp2_with fail
      refine CA.out.mono ?_
      rintro e w1 ⟨rfl, hb1⟩
      have hbw := Lib.hid (BB.out.trans (hb1.mono BB.out.size))
      have D := blk_below T.out hb1
      have E := blk_below U.out hb1
      have q0 : w1.cell? ⟨w.heap.size, 0, none⟩ = some (.int .i64 mc) := (blk_cell D 0).trans rfl
      have q1 : w1.cell? ⟨w.heap.size, 1, none⟩ = some (.int .i64 mi) := (blk_cell D 1).trans rfl
      replace hbw := Lib.hid (below_drew1 hbw.out)
      replace E := blk_drew E
      clear CA hb1 hp T U BB D
      go_wp2
      go_region
      generalize w1.drew = W at *
      have z0 : W.cell? ⟨w.heap.size + 1, 0, none⟩ = some (.string ⟨#[]⟩) := (blk_cell E 0).trans rfl
      have z1 : W.cell? ⟨w.heap.size + 1, 1, none⟩ = some (.string ⟨#[]⟩) := (blk_cell E 1).trans rfl
      have z2 : W.cell? ⟨w.heap.size + 1, 2, none⟩ = some (.int .i64 0) := (blk_cell E 2).trans rfl
      have z3 : W.cell? ⟨w.heap.size + 1, 3, none⟩ = some (.int .i64 0) := (blk_cell E 3).trans rfl
      have z4 : W.cell? ⟨w.heap.size + 1, 4, none⟩ = some (.int .i64 0) := (blk_cell E 4).trans rfl
      have z5 : W.cell? ⟨w.heap.size + 1, 5, none⟩ = some (.slice none 0 0) := (blk_cell E 5).trans rfl
      have f0 := blk_frozen E 0
      have f1 := blk_frozen E 1
      have f2 := blk_frozen E 2
      have f3 := blk_frozen E 3
      have f4 := blk_frozen E 4
      have f5 := blk_frozen E 5
      have TX := Lib.hid (blk_set6 E (.string ⟨#[]⟩) (.string ⟨#[]⟩) (.int .i64 0) (.int .i64 0) (.int .i64 0) (.slice none 0 0))
      have TB := Lib.hid (below_set6 hbw.out (g := w.heap.size + 1) (Nat.le_succ _) (.string ⟨#[]⟩) (.string ⟨#[]⟩) (.int .i64 0) (.int .i64 0) (.int .i64 0) (.slice none 0 0))
      clear E
      go_wp2
      exact bodyPost_ret (results_ct rfl _ _ (w.heap.size + 1) 51 _ (0, 0) _ rfl TX.out Tryd.underlying51 rfl (by kernel_rfl)) rfl ⟨_, rfl, Kd.R_nil _ _ _ _ _, TB.out⟩
    · have hd0 : decide (mi < 0) = false := decide_eq_false hi
      have hd1 : decide (mi ≥ (x.c.f5.length : Int)) = true := decide_eq_true (by omega)
      clear hx
      go_enter Tryd.func21, Tryd.ntmps21
      go_wp2_with fail
      refine CA.out.mono ?_
      rintro e w1 ⟨rfl, hb1⟩
      have hbw := Lib.hid (BB.out.trans (hb1.mono BB.out.size))
      have D := blk_below T.out hb1
      have E := blk_below U.out hb1
      have P := blk_below hp.out hbw.out
      have q0 : w1.cell? ⟨w.heap.size, 0, none⟩ = some (.int .i64 mc) := (blk_cell D 0).trans rfl
      have q1 : w1.cell? ⟨w.heap.size, 1, none⟩ = some (.int .i64 mi) := (blk_cell D 1).trans rfl
      have p5 : w1.cell? ⟨p, 5, none⟩ = some (.slice A5 x.c.f5.length c5) := (blk_cell P 5).trans rfl
      replace hbw := Lib.hid (below_drew1 hbw.out)
      replace E := blk_drew E
      clear CA hb1 hp T U BB D P
      go_wp2
      go_region
      generalize w1.drew = W at *
      have z0 : W.cell? ⟨w.heap.size + 1, 0, none⟩ = some (.string ⟨#[]⟩) := (blk_cell E 0).trans rfl
      have z1 : W.cell? ⟨w.heap.size + 1, 1, none⟩ = some (.string ⟨#[]⟩) := (blk_cell E 1).trans rfl
      have z2 : W.cell? ⟨w.heap.size + 1, 2, none⟩ = some (.int .i64 0) := (blk_cell E 2).trans rfl
      have z3 : W.cell? ⟨w.heap.size + 1, 3, none⟩ = some (.int .i64 0) := (blk_cell E 3).trans rfl
      have z4 : W.cell? ⟨w.heap.size + 1, 4, none⟩ = some (.int .i64 0) := (blk_cell E 4).trans rfl
      have z5 : W.cell? ⟨w.heap.size + 1, 5, none⟩ = some (.slice none 0 0) := (blk_cell E 5).trans rfl
      have f0 := blk_frozen E 0
      have f1 := blk_frozen E 1
      have f2 := blk_frozen E 2
      have f3 := blk_frozen E 3
      have f4 := blk_frozen E 4
      have f5 := blk_frozen E 5
      have TX := Lib.hid (blk_set6 E (.string ⟨#[]⟩) (.string ⟨#[]⟩) (.int .i64 0) (.int .i64 0) (.int .i64 0) (.slice none 0 0))
      have TB := Lib.hid (below_set6 hbw.out (g := w.heap.size + 1) (Nat.le_succ _) (.string ⟨#[]⟩) (.string ⟨#[]⟩) (.int .i64 0) (.int .i64 0) (.int .i64 0) (.slice none 0 0))
      clear E
      go_wp2
      exact bodyPost_ret (results_ct rfl _ _ (w.heap.size + 1) 51 _ (0, 0) _ rfl TX.out Tryd.underlying51 rfl (by kernel_rfl)) rfl ⟨_, rfl, Kd.R_nil _ _ _ _ _, TB.out⟩
  · have CA := Lib.hid (at_out hq hc _ BB.out)
    clear hq hno
    go_enter Tryd.func21, Tryd.ntmps21
    go_wp2_with fail
    refine CA.out.mono ?_
    rintro e w1 ⟨rfl, hb1⟩
    have hbw := Lib.hid (BB.out.trans (hb1.mono BB.out.size))
    have D := blk_below T.out hb1
    have E := blk_below U.out hb1
    replace hbw := Lib.hid (below_drew1 hbw.out)
    replace E := blk_drew E
    clear CA hb1 T U BB D
    go_wp2
    go_region
    generalize w1.drew = W at *
    have z0 : W.cell? ⟨w.heap.size + 1, 0, none⟩ = some (.string ⟨#[]⟩) := (blk_cell E 0).trans rfl
    have z1 : W.cell? ⟨w.heap.size + 1, 1, none⟩ = some (.string ⟨#[]⟩) := (blk_cell E 1).trans rfl
    have z2 : W.cell? ⟨w.heap.size + 1, 2, none⟩ = some (.int .i64 0) := (blk_cell E 2).trans rfl
    have z3 : W.cell? ⟨w.heap.size + 1, 3, none⟩ = some (.int .i64 0) := (blk_cell E 3).trans rfl
    have z4 : W.cell? ⟨w.heap.size + 1, 4, none⟩ = some (.int .i64 0) := (blk_cell E 4).trans rfl
    have z5 : W.cell? ⟨w.heap.size + 1, 5, none⟩ = some (.slice none 0 0) := (blk_cell E 5).trans rfl
    have f0 := blk_frozen E 0
    have f1 := blk_frozen E 1
    have f2 := blk_frozen E 2
    have f3 := blk_frozen E 3
    have f4 := blk_frozen E 4
    have f5 := blk_frozen E 5
    have TX := Lib.hid (blk_set6 E (.string ⟨#[]⟩) (.string ⟨#[]⟩) (.int .i64 0) (.int .i64 0) (.int .i64 0) (.slice none 0 0))
    have TB := Lib.hid (below_set6 hbw.out (g := w.heap.size + 1) (Nat.le_succ _) (.string ⟨#[]⟩) (.string ⟨#[]⟩) (.int .i64 0) (.int .i64 0) (.int .i64 0) (.slice none 0 0))
    clear E
    go_wp2
    exact bodyPost_ret (results_ct rfl _ _ (w.heap.size + 1) 51 _ (0, 0) _ rfl TX.out Tryd.underlying51 rfl (by kernel_rfl)) rfl ⟨_, rfl, Kd.R_nil _ _ _ _ _, TB.out⟩
end Go.Proofs.YtmlifggklaeieaaDoor.Hi

/- hier.World.Extends: whether b is above a, or a itself. -/
namespace Go.Proofs.YtmlifggklaeieaaDoor.Hi
open Go Go.RowKit Go.Proofs.YtmlifggklaeieaaDoorW.PrintWords Go.Proofs.YtmlifggklaeieaaDoorW.PrintLast Go.Proofs.YtmlifggklaeieaaDoorW.PrintMore Go.Proofs.YtmlifggklaeieaaDoor.Pt
set_option linter.unusedVariables false
set_option linter.unusedSimpArgs false
set_option maxHeartbeats 2000000
set_option maxRecDepth 100000

/-- The block of an entry. -/
def EntAt (w : World) (es : List Ent) (i : Int) (p : Nat) : Prop := ∃ A2 c2 A5 c5 A8 c8, w.heap[p]? = some (.cells #[.string (ent es i).c.f0, .string (ent es i).c.f1, .slice A2 (ent es i).c.f2.length c2, .int .i64 (ent es i).c.f3, .int .i64 (ent es i).c.f4, .slice A5 (ent es i).c.f5.length c5, .int .i64 (ent es i).above, .int .i64 (ent es i).depth, .slice A8 (ent es i).clo.length c8] 77 (0, 0))
theorem EntAt.below {w w1 : World} {es : List Ent} {i : Int} {p : Nat} (h : EntAt w es i p) (hb : Below w.heap.size w w1) : EntAt w1 es i p := by
  obtain ⟨A2, c2, A5, c5, A8, c8, h⟩ := h
  exact ⟨A2, c2, A5, c5, A8, c8, blk_below h hb⟩
theorem EntAt.up {w : World} {es : List Ent} {i : Int} {p : Nat} (h : EntAt w es i p) : w.cell? ⟨p, 6, none⟩ = some (.int .i64 (ent es i).above) ∧ w.cell? ⟨p, 7, none⟩ = some (.int .i64 (ent es i).depth) := by
  obtain ⟨A2, c2, A5, c5, A8, c8, h⟩ := h
  exact ⟨(blk_cell h 6).trans rfl, (blk_cell h 7).trans rfl⟩
theorem climb_up {es : List Ent} (ht : Tree es) {c d : Int} (h0 : 0 ≤ c) (h1 : c < es.length) (hd : 0 ≤ d) (hg : (ent es c).depth > d) : 0 ≤ (ent es c).above ∧ (ent es c).above < c ∧ climb es es.length c d = climb es es.length (ent es c).above d := by
  rcases ht.at_ h0 h1 with ⟨_, hz⟩ | ⟨h2, h3, hz⟩
  · omega
  · refine ⟨h2, h3, ?_⟩
    obtain ⟨N, hN⟩ : ∃ N, es.length = N + 1 := ⟨es.length - 1, by omega⟩
    have hm := climb_more ht N (ent es c).above d h2 (by omega) hd (by have := (ht.depth_ h2 (by omega)).2; omega) 1
    rw [hN]
    rw [hm]
    show (if (ent es c).depth > d then climb es N (ent es c).above d else c) = _
    rw [if_pos hg]
theorem climb_end {es : List Ent} {c d : Int} (hg : ¬ (ent es c).depth > d) : ∀ N, climb es N c d = c
  | 0 => rfl
  | N + 1 => by
    show (if (ent es c).depth > d then climb es N (ent es c).above d else c) = _
    rw [if_neg hg]
theorem extends_any (w : World) (g : Nat) (es : List Ent) (hq : WOK w g es) (a b : Int) :
    Calls Tryd.prog 28 #[.pointer (some ⟨g, 0, none⟩), .int .i64 a, .int .i64 b] w fun e w' => e = .returned (.bool (extF es a b)) ∧ Below w.heap.size w w' := by
  generalize hV : extF es a b = V
  replace hV := Lib.hid hV
  by_cases ha : 0 ≤ a ∧ a < es.length
  · have ea : Hid (inB es a = true) := Lib.hid (decide_eq_true ha)
    obtain ⟨p, A2, c2, A5, c5, A8, c8, hp, _, _, _, _, _, ⟨base, R8⟩, HA⟩ := at_in hq ha.1 ha.2
    by_cases hb : 0 ≤ b ∧ b < es.length
    · have eb : Hid (inB es b = true) := Lib.hid (decide_eq_true hb)
      obtain ⟨q, B2, d2, B5, d5, B8, d8, hpq, _, _, _, _, _, _, HB⟩ := at_in hq hb.1 hb.2
      have EP : Hid (EntAt w es a p) := Lib.hid ⟨_, _, _, _, _, _, hp⟩
      have hcl := (hq.fine _ (List.mem_of_getElem? (get_ent ha.1 ha.2))).2.2
      have hp8 : w.cell? ⟨p, 8, none⟩ = some (.slice A8 (ent es a).clo.length c8) := (blk_cell hp 8).trans rfl
      have CT := Lib.hid (fun (W : World) (hb : Below w.heap.size w W) => contains_R (Kd.R_below R8 hb) (by omega) b)
      have HW := Lib.hid hq
      replace hpq := Lib.hid hpq
      replace HA := Lib.hid HA
      replace HB := Lib.hid HB
      replace hp8 := Lib.hid hp8
      have hX : Hid (extF es a b = (if isI (ent es b).c then (a == b || (ent es a).clo.contains b) else climb es es.length a (ent es b).depth == b)) := Lib.hid (by unfold extF; rw [ea.out, eb.out]; rfl)
      have hdb := Lib.hid (hq.tree.depth_ hb.1 hb.2)
      clear hq hp R8
      have CA := Lib.hid (HA.out w (Below.refl _ _))
      go_enter Tryd.func28, Tryd.ntmps28
      go_wp2_with fail
      refine CA.out.mono ?_
      rintro e w1 ⟨rfl, hb1⟩
      have CB := Lib.hid (HB.out w1 hb1)
      replace hb1 := Lib.hid hb1
      go_wp2_with fail
      refine CB.out.mono ?_
      rintro e w2 ⟨rfl, hb2⟩
      have hbw := Lib.hid (hb1.out.trans (hb2.mono hb1.out.size))
      have E := blk_below hpq.out hbw.out
      have q0 : w2.cell? ⟨q, 0, none⟩ = some (.string (ent es b).c.f0) := (blk_cell E 0).trans rfl
      have q1 : w2.cell? ⟨q, 1, none⟩ = some (.string (ent es b).c.f1) := (blk_cell E 1).trans rfl
      have q2 : w2.cell? ⟨q, 2, none⟩ = some (.slice B2 (ent es b).c.f2.length d2) := (blk_cell E 2).trans rfl
      have q3 : w2.cell? ⟨q, 3, none⟩ = some (.int .i64 (ent es b).c.f3) := (blk_cell E 3).trans rfl
      have q4 : w2.cell? ⟨q, 4, none⟩ = some (.int .i64 (ent es b).c.f4) := (blk_cell E 4).trans rfl
      have q5 : w2.cell? ⟨q, 5, none⟩ = some (.slice B5 (ent es b).c.f5.length d5) := (blk_cell E 5).trans rfl
      have IF := Lib.hid (iface_any w2 (.string (ent es b).c.f0) (.string (ent es b).c.f1) (.slice B2 (ent es b).c.f2.length d2) (.int .i64 (ent es b).c.f4) (.slice B5 (ent es b).c.f5.length d5) (ent es b).c.f3)
      clear CA CB hb1 hb2 E HA HB
      go_wp2_with fail
      refine IF.out.mono ?_
      rintro e w3 ⟨rfl, hb3⟩
      have hbw3 := Lib.hid (hbw.out.trans (hb3.mono hbw.out.size))
      clear IF hb3 q0 q1 q2 q3 q4 q5
      have p8 := pw_cell_below hbw3.out hp8.out
      by_cases hI : isI (ent es b).c = true
      · have hI2 : (Go.bits .and .i64 (ent es b).c.f3 512 != 0) = true := hI
        rw [hI2]
        have hR : Hid ((if isI (ent es b).c then (a == b || (ent es a).clo.contains b) else climb es es.length a (ent es b).depth == b) = (a == b || (ent es a).clo.contains b)) := Lib.hid (by rw [hI]; rfl)
        by_cases hab : a = b
        · have e1 : (a == b) = true := beq_iff_eq.2 hab
          clear hab
          go_wp2
          go_ret
          exact ⟨by rw [← hV.out, hX.out, hR.out, e1]; rfl, hbw3.out⟩
        · have e1 : (a == b) = false := beq_eq_false_iff_ne.2 hab
          have C2 := Lib.hid (CT.out w3 hbw3.out)
          go_wp2_with (go_at_call 41; refine C2.out.mono ?_; rintro e w4 ⟨rfl, rfl⟩)
          go_ret
          exact ⟨by rw [← hV.out, hX.out, hR.out, e1]; simp, hbw3.out⟩
      · have hI2 : (Go.bits .and .i64 (ent es b).c.f3 512 != 0) = false := by simpa [isI] using hI
        rw [hI2]
        have hR : Hid ((if isI (ent es b).c then (a == b || (ent es a).clo.contains b) else climb es es.length a (ent es b).depth == b) = (climb es es.length a (ent es b).depth == b)) := Lib.hid (by rw [show isI (ent es b).c = false from hI2]; rfl)
        have hq7 : Hid (w.cell? ⟨q, 7, none⟩ = some (.int .i64 (ent es b).depth)) := Lib.hid ((blk_cell hpq.out 7).trans rfl)
        clear CT hpq hp8 p8 hI hI2
        have hVV : Hid (V = (climb es es.length a (ent es b).depth == b)) := Lib.hid (by rw [← hV.out, hX.out, hR.out])
        clear hV hX hR
        generalize (ent es b).depth = d at *
        obtain ⟨hd0, _⟩ := hdb.out
        replace hd0 := Lib.hid hd0
        clear hdb
        have hgl := Lib.hid HW.out.inn
        go_wp2_with fail
        go_loopw [1, 7] (fun v1 v7 wr => ∃ (c : Int) (pc : Nat), v1 = .int .i64 c ∧ v7 = .pointer (some ⟨pc, 0, none⟩) ∧ Hid (0 ≤ c ∧ c < es.length) ∧ Hid (EntAt w es c pc) ∧ Hid (climb es es.length c d = climb es es.length a d) ∧ Hid (Below w.heap.size w wr)) (fun v1 _ _ => (intOf v1).toNat)
        case atStart => exact ⟨a, p, rfl, rfl, Lib.hid ha, EP, Lib.hid rfl, hbw3⟩
        case round =>
          clear EP hbw3 hbw ea
          obtain ⟨c, pc, rfl, rfl, hc, hE, hcl2, hbr⟩ := hrel
          obtain ⟨u6, u7⟩ := hE.out.up
          have hq7' := pw_cell_below hbr.out hq7.out
          have u6' := pw_cell_below hbr.out u6
          have u7' := pw_cell_below hbr.out u7
          by_cases hgt : (ent es c).depth > d
          · obtain ⟨n0, n1, n2⟩ := climb_up HW.out.tree hc.out.1 hc.out.2 hd0.out hgt
            have nlt := hc.out.2
            obtain ⟨base, v, mb, ps, h⟩ := hgl.out
            obtain ⟨Av, cv, rfl⟩ := Kd.R_slice h.row
            obtain ⟨hnl, ad, p2, A2', c2', A5', c5', A8', c8', rfl, hrow, hent, _, _, _⟩ := WIn_all_at h n0 (show (ent es c).above < es.length by omega)
            have hg0 : w.cell? ⟨g, 0, none⟩ = some (.slice (some ad) ps.length cv) := (blk_cell h.blk 0).trans rfl
            have hgt2 : decide ((ent es c).depth > d) = true := decide_eq_true hgt
            have EP2 : Hid (EntAt w es (ent es c).above p2) := Lib.hid ⟨_, _, _, _, _, _, hent⟩
            have hlt2 : (ent es c).above < (ps.length : Int) := by omega
            have nc : Hid (climb es es.length (ent es c).above d = climb es es.length a d) := Lib.hid (n2.symm.trans hcl2.out)
            have nr : Hid (0 ≤ (ent es c).above ∧ (ent es c).above < es.length) := Lib.hid ⟨n0, by omega⟩
            clear h hent n2 u6 u7 hE hcl2
            generalize (ent es c).above = ab at *
            generalize (ent es c).depth = dp at *
            have hg0' := pw_cell_below hbr.out hg0
            have hrow' := pw_cell_below hbr.out hrow
            replace hrow := Lib.hid hrow
            replace hg0 := Lib.hid hg0
            go_wp2
            go_region
            go_wp2
            refine ⟨⟨ab, p2, rfl, rfl, nr, EP2, nc, Lib.hid (below_drew1 hbr.out)⟩, by simp [intOf]; omega⟩
          · have hgt2 : decide ((ent es c).depth > d) = false := decide_eq_false hgt
            have he := Lib.hid (climb_end hgt es.length)
            clear u6 u7 hE hgt
            generalize (ent es c).depth = dp at *
            go_wp2
            go_region
            go_wp2
            go_ret
            exact ⟨by rw [hVV.out, ← hcl2.out, he.out]; rfl, below_drew1 hbr.out⟩
    · have eb : Hid (inB es b = false) := Lib.hid (decide_eq_false hb)
      have hX : Hid (V = false) := Lib.hid (by rw [← hV.out]; unfold extF; rw [ea.out, eb.out]; rfl)
      have HB := Lib.hid (at_out hq hb)
      replace HA := Lib.hid HA
      clear hq ha hb hp R8 hV
      have CA := Lib.hid (HA.out w (Below.refl _ _))
      go_enter Tryd.func28, Tryd.ntmps28
      go_wp2_with fail
      refine CA.out.mono ?_
      rintro e w1 ⟨rfl, hb1⟩
      have CB := Lib.hid (HB.out w1 hb1)
      replace hb1 := Lib.hid hb1
      go_wp2_with fail
      refine CB.out.mono ?_
      rintro e w2 ⟨rfl, hb2⟩
      have hbw := Lib.hid (hb1.out.trans (hb2.mono hb1.out.size))
      clear CA CB hb1 hb2 HA HB
      go_wp2
      go_ret
      exact ⟨by rw [hX.out]; rfl, hbw.out⟩
  · have ea : Hid (inB es a = false) := Lib.hid (decide_eq_false ha)
    have hX : Hid (V = false) := Lib.hid (by rw [← hV.out]; unfold extF; rw [ea.out]; rfl)
    have HA := Lib.hid (at_out hq ha)
    obtain ⟨pv, HB⟩ : ∃ pv : Option Nat, ∀ W, Below w.heap.size w W → Calls Tryd.prog 32 #[.pointer (some ⟨g, 0, none⟩), .int .i64 b] W fun e w' => e = .returned (.pointer (pv.map fun p => ⟨p, 0, none⟩)) ∧ Below W.heap.size W w' := by
      by_cases hb : 0 ≤ b ∧ b < es.length
      · obtain ⟨q, B2, d2, B5, d5, B8, d8, hpq, _, _, _, _, _, _, HB⟩ := at_in hq hb.1 hb.2
        exact ⟨some q, HB⟩
      · exact ⟨none, at_out hq hb⟩
    replace HB := Lib.hid HB
    clear hq ha hV
    have CA := Lib.hid (HA.out w (Below.refl _ _))
    go_enter Tryd.func28, Tryd.ntmps28
    go_wp2_with fail
    refine CA.out.mono ?_
    rintro e w1 ⟨rfl, hb1⟩
    have CB := Lib.hid (HB.out w1 hb1)
    replace hb1 := Lib.hid hb1
    go_wp2_with fail
    refine CB.out.mono ?_
    rintro e w2 ⟨rfl, hb2⟩
    have hbw := Lib.hid (hb1.out.trans (hb2.mono hb1.out.size))
    clear CA CB hb1 hb2 HA HB
    go_wp2
    go_ret
    exact ⟨by rw [hX.out]; rfl, hbw.out⟩
end Go.Proofs.YtmlifggklaeieaaDoor.Hi

/- access.homeOf: the run-time package of a class, and the class. -/
namespace Go.Proofs.YtmlifggklaeieaaDoor.Hi
open Go Go.RowKit Go.Proofs.YtmlifggklaeieaaDoor.Nm Go.Proofs.YtmlifggklaeieaaDoorW.PrintWords Go.Proofs.YtmlifggklaeieaaDoorW.PrintLast Go.Proofs.YtmlifggklaeieaaDoorW.PrintMore Go.Proofs.YtmlifggklaeieaaDoor.Pt
set_option linter.unusedVariables false
set_option linter.unusedSimpArgs false
set_option maxHeartbeats 2000000

theorem results_cct {P : Program} {fn : Func} {p p' u : Tmp} {ty ty' : TypeId} (h : fn.results = #[.cell p ty, .cell p' ty', .tmp u]) (tmps : Array Value) (w : World) (g g' : Nat) (t t' : TypeId) (cs cs' : Array Value) (fr fr' : Nat × Nat) (d d' : TypeDesc)
    (hp : tmps.getD p undef = .pointer (some ⟨g, 0, none⟩)) (hg : w.heap[g]? = some (.cells cs t fr))
    (hu : P.underlying ty = some d) (hd : (match d with | .struct _ | .array _ _ => true | _ => false) = true) (hi : (P.info? ty).map (·.size) = some cs.size)
    (hp' : tmps.getD p' undef = .pointer (some ⟨g', 0, none⟩)) (hg' : w.heap[g']? = some (.cells cs' t' fr'))
    (hu' : P.underlying ty' = some d') (hd' : (match d' with | .struct _ | .array _ _ => true | _ => false) = true) (hi' : (P.info? ty').map (·.size) = some cs'.size) :
    (results fn tmps).run P w = .ok (.tuple #[.agg cs, .agg cs', tmps.getD u undef]) w := by
  have h1 : tmps[p]?.getD undef = .pointer (some ⟨g, 0, none⟩) := by simpa using hp
  have h2 : tmps[p']?.getD undef = .pointer (some ⟨g', 0, none⟩) := by simpa using hp'
  simp [results, h, h1, h2, asAddr, run_loadVar_row w g t ty cs fr d hg hu hd hi, run_loadVar_row w g' t' ty' cs' fr' d' hg' hu' hd' hi']
def homeV (loader : Int) (name : ByteArray) : Value := .agg #[.int .i64 loader, .string name]
theorem home_nil (id : Int) (w : World) :
    Calls Tryd.prog 24 #[.pointer none, .int .i64 id] w fun e w' => ∃ vc, e = .returned (.tuple #[homeV 0 ⟨#[]⟩, vc, .int .i64 2]) ∧ OwnC w' w.heap.size vc z44 ∧ Below w.heap.size w w' := by
  have C0 := heap_alloc2_old w (.cells #[.int .i64 0, .string ⟨#[]⟩] 61) (.cells #[.string ⟨#[]⟩, .string ⟨#[]⟩, .slice none 0 0, .int .i64 0, .int .i64 0, .slice none 0 0] 44)
  have C1 := heap_alloc2_new w (.cells #[.int .i64 0, .string ⟨#[]⟩] 61) (.cells #[.string ⟨#[]⟩, .string ⟨#[]⟩, .slice none 0 0, .int .i64 0, .int .i64 0, .slice none 0 0] 44)
  replace C0 := Lib.hid C0
  replace C1 := Lib.hid C1
  go_enter Tryd.func24, Tryd.ntmps24
  go_wp2
  exact bodyPost_ret (results_cct rfl _ _ w.heap.size (w.heap.size + 1) 61 44 _ _ (0, 0) (0, 0) _ _ rfl C0.out Tryd.underlying61 rfl (by kernel_rfl) rfl C1.out Tryd.underlying44 rfl (by kernel_rfl)) rfl ⟨_, rfl, ⟨_, _, rfl, Kd.R_nil _ _ _ _ _, Kd.R_nil _ _ _ _ _⟩, ((Below.refl w.heap.size w).alloc (Nat.le_refl _) _).alloc (by simp) _⟩
/-- The run-time package of a number's class, the class, the error. -/
def homeF (es : List Ent) (id : Int) : Int × ByteArray × S44 × Int := if 0 ≤ id ∧ id < es.length then ((es.getD id.toNat zE).c.f4, pkgB (es.getD id.toNat zE).c.f0, (es.getD id.toNat zE).c, 0) else (0, ⟨#[]⟩, z44, 3)
theorem drew_heap {W : World} {g : Nat} {o : Obj} (h : W.heap[g]? = some o) : W.drew.heap[g]? = some o := h
theorem drew_R {α : Type} {d : Kd α} {e : Nat} {W : World} {base : Nat} {ok : Nat → Prop} {v : Value} {xs : List α} (h : d.R e W base ok v xs) : d.R e W.drew base ok v xs := Kd.R_below h (below_drew1 (Below.refl _ _))
theorem far_set6 {W : World} {g h t : Nat} {cs : Array Value} (hb : W.heap[g]? = some (.cells cs t (0, 0))) (hne : g ≠ h) (u0 u1 u2 u3 u4 u5 : Value) : (set6 W h u0 u1 u2 u3 u4 u5).heap[g]? = some (.cells cs t (0, 0)) :=
  blk_far (p := ⟨h, 5, none⟩) (blk_far (p := ⟨h, 4, none⟩) (blk_far (p := ⟨h, 3, none⟩) (blk_far (p := ⟨h, 2, none⟩) (blk_far (p := ⟨h, 1, none⟩) (blk_far (p := ⟨h, 0, none⟩) hb hne u0) hne u1) hne u2) hne u3) hne u4) hne u5
theorem home_any (w : World) (base g : Nat) (v : Value) (mb : Nat) (ps : List Nat) (es : List Ent) (h : WIn w base g v mb ps es) (hs : ∀ x ∈ es, Small x.c ∧ x.c.f0.size < 4611686018427387904) (id : Int) :
    Calls Tryd.prog 24 #[.pointer (some ⟨g, 0, none⟩), .int .i64 id] w fun e w' => ∃ vc, e = .returned (.tuple #[homeV (homeF es id).1 (homeF es id).2.1, vc, .int .i64 (homeF es id).2.2.2]) ∧ OwnC w' w.heap.size vc (homeF es id).2.2.1 ∧ Below w.heap.size w w' := by
  have C0 := heap_alloc2_old w (.cells #[.int .i64 0, .string ⟨#[]⟩] 61) (.cells #[.string ⟨#[]⟩, .string ⟨#[]⟩, .slice none 0 0, .int .i64 0, .int .i64 0, .slice none 0 0] 44)
  have C1 := heap_alloc2_new w (.cells #[.int .i64 0, .string ⟨#[]⟩] 61) (.cells #[.string ⟨#[]⟩, .string ⟨#[]⟩, .slice none 0 0, .int .i64 0, .int .i64 0, .slice none 0 0] 44)
  have BB := ((Below.refl w.heap.size w).alloc (Nat.le_refl _) (.cells #[.int .i64 0, .string ⟨#[]⟩] 61)).alloc (by simp) (.cells #[.string ⟨#[]⟩, .string ⟨#[]⟩, .slice none 0 0, .int .i64 0, .int .i64 0, .slice none 0 0] 44)
  have h' := h.below BB
  have CA := Lib.hid (class_any _ base g v mb ps es h' (fun x hx => (hs x hx).1) id)
  have hsz := Lib.hid BB.size
  replace C0 := Lib.hid C0
  replace C1 := Lib.hid C1
  replace BB := Lib.hid BB
  by_cases hin : 0 ≤ id ∧ id < es.length
  · have hc : classF es id = ((es.getD id.toNat zE).c, 0) := if_pos hin
    have hh : homeF es id = ((es.getD id.toNat zE).c.f4, pkgB (es.getD id.toNat zE).c.f0, (es.getD id.toNat zE).c, 0) := if_pos hin
    have hx : es.getD id.toNat zE ∈ es := by
      rw [List.getD_eq_getElem?_getD, List.getElem?_eq_getElem (by have := h.len; omega)]
      exact List.getElem_mem _
    have sm := (hs _ hx).2
    rw [hh]
    rw [hc] at CA
    generalize (es.getD id.toNat zE).c = x at *
    have PK := Lib.hid (package_any x.f0 sm)
    clear h h' hh hc hx hs sm
    go_enter Tryd.func24, Tryd.ntmps24
    go_wp2_with fail
    refine CA.out.mono ?_
    rintro e w1 ⟨vc, rfl, ⟨v2, v5, rfl, R2, R5⟩, hb1⟩
    obtain ⟨A2, c2, rfl⟩ := Kd.R_slice R2
    obtain ⟨A5, c5, rfl⟩ := Kd.R_slice R5
    have D0 := blk_below C0.out hb1
    have D1 := blk_below C1.out hb1
    have BB1 := BB.out.trans (hb1.mono hsz.out)
    replace R2 := Lib.hid (Kd.R_lower R2 hsz.out)
    replace R5 := Lib.hid (Kd.R_lower R5 hsz.out)
    replace hb1 := Lib.hid hb1
    replace BB1 := Lib.hid BB1
    replace D0 := Lib.hid D0
    replace D1 := Lib.hid D1
    clear C0 C1 BB CA
    go_wp2_with fail
    have F2 := blk_new w1 (.cells #[.string x.f0, .string x.f1, .slice A2 x.f2.length c2, .int .i64 x.f3, .int .i64 x.f4, .slice A5 x.f5.length c5] 44)
    have BW := (Below.refl w1.heap.size w1).alloc (Nat.le_refl _) (.cells #[.string x.f0, .string x.f1, .slice A2 x.f2.length c2, .int .i64 x.f3, .int .i64 x.f4, .slice A5 x.f5.length c5] 44)
    generalize w1.alloc (.cells #[.string x.f0, .string x.f1, .slice A2 x.f2.length c2, .int .i64 x.f3, .int .i64 x.f4, .slice A5 x.f5.length c5] 44) = W at *
    have E0 := blk_below D0.out BW
    have E1 := blk_below D1.out BW
    have p0 : W.cell? ⟨w1.heap.size, 0, none⟩ = some (.string x.f0) := (blk_cell F2 0).trans rfl
    have p1 : W.cell? ⟨w1.heap.size, 1, none⟩ = some (.string x.f1) := (blk_cell F2 1).trans rfl
    have p2 : W.cell? ⟨w1.heap.size, 2, none⟩ = some (.slice A2 x.f2.length c2) := (blk_cell F2 2).trans rfl
    have p3 : W.cell? ⟨w1.heap.size, 3, none⟩ = some (.int .i64 x.f3) := (blk_cell F2 3).trans rfl
    have p4 : W.cell? ⟨w1.heap.size, 4, none⟩ = some (.int .i64 x.f4) := (blk_cell F2 4).trans rfl
    have p5 : W.cell? ⟨w1.heap.size, 5, none⟩ = some (.slice A5 x.f5.length c5) := (blk_cell F2 5).trans rfl
    have q0 : W.cell? ⟨w.heap.size, 0, none⟩ = some (.int .i64 0) := (blk_cell E0 0).trans rfl
    have q1 : W.cell? ⟨w.heap.size, 1, none⟩ = some (.string ⟨#[]⟩) := (blk_cell E0 1).trans rfl
    have i0 := blk_frozen E0 0
    have i1 := blk_frozen E0 1
    have r0 : W.cell? ⟨w.heap.size + 1, 0, none⟩ = some (.string ⟨#[]⟩) := (blk_cell E1 0).trans rfl
    have r1 : W.cell? ⟨w.heap.size + 1, 1, none⟩ = some (.string ⟨#[]⟩) := (blk_cell E1 1).trans rfl
    have r2 : W.cell? ⟨w.heap.size + 1, 2, none⟩ = some (.slice none 0 0) := (blk_cell E1 2).trans rfl
    have r3 : W.cell? ⟨w.heap.size + 1, 3, none⟩ = some (.int .i64 0) := (blk_cell E1 3).trans rfl
    have r4 : W.cell? ⟨w.heap.size + 1, 4, none⟩ = some (.int .i64 0) := (blk_cell E1 4).trans rfl
    have r5 : W.cell? ⟨w.heap.size + 1, 5, none⟩ = some (.slice none 0 0) := (blk_cell E1 5).trans rfl
    have j0 := blk_frozen E1 0
    have j1 := blk_frozen E1 1
    have j2 := blk_frozen E1 2
    have j3 := blk_frozen E1 3
    have j4 := blk_frozen E1 4
    have j5 := blk_frozen E1 5
    have hne : w1.heap.size ≠ w.heap.size := by have := blk_lt D0.out; omega
    have hne1 : w1.heap.size ≠ w.heap.size + 1 := by have := blk_lt D1.out; omega
    have Y0 : ((W.setCell ⟨w.heap.size, 0, none⟩ (.int .i64 x.f4)).setCell ⟨w.heap.size, 1, none⟩ (.string (pkgB x.f0))).heap[w.heap.size]? = some (.cells #[.int .i64 x.f4, .string (pkgB x.f0)] 61 (0, 0)) := (blk_set (blk_set E0 0 (.int .i64 x.f4)) 1 (.string (pkgB x.f0))).trans rfl
    have X0 := Lib.hid (far_set6 Y0 (h := w.heap.size + 1) (by omega) (.string x.f0) (.string x.f1) (.slice A2 x.f2.length c2) (.int .i64 x.f3) (.int .i64 x.f4) (.slice A5 x.f5.length c5))
    have Y1 := blk_far (p := ⟨w.heap.size, 1, none⟩) (blk_far (p := ⟨w.heap.size, 0, none⟩) E1 (by simp) (.int .i64 x.f4)) (by simp) (.string (pkgB x.f0))
    have Y2 := Kd.R_set (Kd.R_set (Kd.R_below R2.out BW) E0 (by decide) 0 (.int .i64 x.f4)) (blk_set E0 0 (.int .i64 x.f4)) (by decide) 1 (.string (pkgB x.f0))
    have Y5 := Kd.R_set (Kd.R_set (Kd.R_below R5.out BW) E0 (by decide) 0 (.int .i64 x.f4)) (blk_set E0 0 (.int .i64 x.f4)) (by decide) 1 (.string (pkgB x.f0))
    have X2 := Lib.hid (R_set6 Y2 Y1 (by decide) (.string x.f0) (.string x.f1) (.slice A2 x.f2.length c2) (.int .i64 x.f3) (.int .i64 x.f4) (.slice A5 x.f5.length c5))
    have X5 := Lib.hid (R_set6 Y5 Y1 (by decide) (.string x.f0) (.string x.f1) (.slice A2 x.f2.length c2) (.int .i64 x.f3) (.int .i64 x.f4) (.slice A5 x.f5.length c5))
    have X1 := Lib.hid (blk_set6 Y1 (.string x.f0) (.string x.f1) (.slice A2 x.f2.length c2) (.int .i64 x.f3) (.int .i64 x.f4) (.slice A5 x.f5.length c5))
    have XB := Lib.hid (below_set6 (((BB1.out.trans (BW.mono BB1.out.size)).setCell (p := ⟨w.heap.size, 0, none⟩) (Nat.le_refl _) (.int .i64 x.f4)).setCell (p := ⟨w.heap.size, 1, none⟩) (Nat.le_refl _) (.string (pkgB x.f0))) (g := w.heap.size + 1) (Nat.le_succ _) (.string x.f0) (.string x.f1) (.slice A2 x.f2.length c2) (.int .i64 x.f3) (.int .i64 x.f4) (.slice A5 x.f5.length c5))
    have Z0 := Lib.hid (drew_heap X0.out)
    have Z1 := Lib.hid (drew_heap X1.out)
    have Z2 := Lib.hid (drew_R X2.out)
    have Z5 := Lib.hid (drew_R X5.out)
    have ZB := Lib.hid (below_drew1 XB.out)
    clear X0 X1 X2 X5 XB
    clear Y0 Y1 Y2 Y5 E0 E1 F2 BW D0 D1 BB1 R2 R5 hb1 hsz
    go_region_with (go_at_call 39; refine (PK.out _).mono ?_; rintro e w10 ⟨rfl, rfl⟩)
    all_goals go_wp2
    all_goals exact bodyPost_ret (results_cct rfl _ _ w.heap.size (w.heap.size + 1) 61 44 _ _ (0, 0) (0, 0) _ _ rfl Z0.out Tryd.underlying61 rfl (by kernel_rfl) rfl Z1.out Tryd.underlying44 rfl (by kernel_rfl)) rfl ⟨_, rfl, ⟨_, _, rfl, Z2.out, Z5.out⟩, ZB.out⟩
  · have hc : classF es id = (z44, 3) := if_neg hin
    have hh : homeF es id = (0, ⟨#[]⟩, z44, 3) := if_neg hin
    rw [hh]
    rw [hc] at CA
    clear h h' hh hc hs
    go_enter Tryd.func24, Tryd.ntmps24
    go_wp2_with fail
    refine CA.out.mono ?_
    rintro e w1 ⟨vc, rfl, ⟨v2, v5, rfl, R2, R5⟩, hb1⟩
    obtain ⟨A2, c2, rfl⟩ := Kd.R_slice R2
    obtain ⟨A5, c5, rfl⟩ := Kd.R_slice R5
    have D0 := blk_below C0.out hb1
    have D1 := blk_below C1.out hb1
    have BB1 := BB.out.trans (hb1.mono hsz.out)
    replace R2 := Lib.hid (Kd.R_lower R2 hsz.out)
    replace R5 := Lib.hid (Kd.R_lower R5 hsz.out)
    replace hb1 := Lib.hid hb1
    replace BB1 := Lib.hid BB1
    replace D0 := Lib.hid D0
    replace D1 := Lib.hid D1
    clear C0 C1 BB CA
    go_wp2_with fail
    have F2 := blk_new w1 (.cells #[.string z44.f0, .string z44.f1, .slice A2 z44.f2.length c2, .int .i64 z44.f3, .int .i64 z44.f4, .slice A5 z44.f5.length c5] 44)
    have BW := (Below.refl w1.heap.size w1).alloc (Nat.le_refl _) (.cells #[.string z44.f0, .string z44.f1, .slice A2 z44.f2.length c2, .int .i64 z44.f3, .int .i64 z44.f4, .slice A5 z44.f5.length c5] 44)
    generalize w1.alloc (.cells #[.string z44.f0, .string z44.f1, .slice A2 z44.f2.length c2, .int .i64 z44.f3, .int .i64 z44.f4, .slice A5 z44.f5.length c5] 44) = W at *
    have E0 := blk_below D0.out BW
    have E1 := blk_below D1.out BW
    have p0 : W.cell? ⟨w1.heap.size, 0, none⟩ = some (.string z44.f0) := (blk_cell F2 0).trans rfl
    have p1 : W.cell? ⟨w1.heap.size, 1, none⟩ = some (.string z44.f1) := (blk_cell F2 1).trans rfl
    have p2 : W.cell? ⟨w1.heap.size, 2, none⟩ = some (.slice A2 z44.f2.length c2) := (blk_cell F2 2).trans rfl
    have p3 : W.cell? ⟨w1.heap.size, 3, none⟩ = some (.int .i64 z44.f3) := (blk_cell F2 3).trans rfl
    have p4 : W.cell? ⟨w1.heap.size, 4, none⟩ = some (.int .i64 z44.f4) := (blk_cell F2 4).trans rfl
    have p5 : W.cell? ⟨w1.heap.size, 5, none⟩ = some (.slice A5 z44.f5.length c5) := (blk_cell F2 5).trans rfl
    have q0 : W.cell? ⟨w.heap.size, 0, none⟩ = some (.int .i64 0) := (blk_cell E0 0).trans rfl
    have q1 : W.cell? ⟨w.heap.size, 1, none⟩ = some (.string ⟨#[]⟩) := (blk_cell E0 1).trans rfl
    have i0 := blk_frozen E0 0
    have i1 := blk_frozen E0 1
    have r0 : W.cell? ⟨w.heap.size + 1, 0, none⟩ = some (.string ⟨#[]⟩) := (blk_cell E1 0).trans rfl
    have r1 : W.cell? ⟨w.heap.size + 1, 1, none⟩ = some (.string ⟨#[]⟩) := (blk_cell E1 1).trans rfl
    have r2 : W.cell? ⟨w.heap.size + 1, 2, none⟩ = some (.slice none 0 0) := (blk_cell E1 2).trans rfl
    have r3 : W.cell? ⟨w.heap.size + 1, 3, none⟩ = some (.int .i64 0) := (blk_cell E1 3).trans rfl
    have r4 : W.cell? ⟨w.heap.size + 1, 4, none⟩ = some (.int .i64 0) := (blk_cell E1 4).trans rfl
    have r5 : W.cell? ⟨w.heap.size + 1, 5, none⟩ = some (.slice none 0 0) := (blk_cell E1 5).trans rfl
    have j0 := blk_frozen E1 0
    have j1 := blk_frozen E1 1
    have j2 := blk_frozen E1 2
    have j3 := blk_frozen E1 3
    have j4 := blk_frozen E1 4
    have j5 := blk_frozen E1 5
    have hne : w1.heap.size ≠ w.heap.size := by have := blk_lt D0.out; omega
    have hne1 : w1.heap.size ≠ w.heap.size + 1 := by have := blk_lt D1.out; omega
    have Y0 : ((W.setCell ⟨w.heap.size, 0, none⟩ (.int .i64 0)).setCell ⟨w.heap.size, 1, none⟩ (.string ⟨#[]⟩)).heap[w.heap.size]? = some (.cells #[.int .i64 0, .string ⟨#[]⟩] 61 (0, 0)) := (blk_set (blk_set E0 0 (.int .i64 0)) 1 (.string ⟨#[]⟩)).trans rfl
    have X0 := Lib.hid (far_set6 Y0 (h := w.heap.size + 1) (by omega) (.string z44.f0) (.string z44.f1) (.slice A2 z44.f2.length c2) (.int .i64 z44.f3) (.int .i64 z44.f4) (.slice A5 z44.f5.length c5))
    have Y1 := blk_far (p := ⟨w.heap.size, 1, none⟩) (blk_far (p := ⟨w.heap.size, 0, none⟩) E1 (by simp) (.int .i64 0)) (by simp) (.string ⟨#[]⟩)
    have Y2 := Kd.R_set (Kd.R_set (Kd.R_below R2.out BW) E0 (by decide) 0 (.int .i64 0)) (blk_set E0 0 (.int .i64 0)) (by decide) 1 (.string ⟨#[]⟩)
    have Y5 := Kd.R_set (Kd.R_set (Kd.R_below R5.out BW) E0 (by decide) 0 (.int .i64 0)) (blk_set E0 0 (.int .i64 0)) (by decide) 1 (.string ⟨#[]⟩)
    have X2 := Lib.hid (R_set6 Y2 Y1 (by decide) (.string z44.f0) (.string z44.f1) (.slice A2 z44.f2.length c2) (.int .i64 z44.f3) (.int .i64 z44.f4) (.slice A5 z44.f5.length c5))
    have X5 := Lib.hid (R_set6 Y5 Y1 (by decide) (.string z44.f0) (.string z44.f1) (.slice A2 z44.f2.length c2) (.int .i64 z44.f3) (.int .i64 z44.f4) (.slice A5 z44.f5.length c5))
    have X1 := Lib.hid (blk_set6 Y1 (.string z44.f0) (.string z44.f1) (.slice A2 z44.f2.length c2) (.int .i64 z44.f3) (.int .i64 z44.f4) (.slice A5 z44.f5.length c5))
    have XB := Lib.hid (below_set6 (((BB1.out.trans (BW.mono BB1.out.size)).setCell (p := ⟨w.heap.size, 0, none⟩) (Nat.le_refl _) (.int .i64 0)).setCell (p := ⟨w.heap.size, 1, none⟩) (Nat.le_refl _) (.string ⟨#[]⟩)) (g := w.heap.size + 1) (Nat.le_succ _) (.string z44.f0) (.string z44.f1) (.slice A2 z44.f2.length c2) (.int .i64 z44.f3) (.int .i64 z44.f4) (.slice A5 z44.f5.length c5))
    have Z0 := Lib.hid (drew_heap X0.out)
    have Z1 := Lib.hid (drew_heap X1.out)
    have Z2 := Lib.hid (drew_R X2.out)
    have Z5 := Lib.hid (drew_R X5.out)
    have ZB := Lib.hid (below_drew1 XB.out)
    clear X0 X1 X2 X5 XB
    clear Y0 Y1 Y2 Y5 E0 E1 F2 BW D0 D1 BB1 R2 R5 hb1 hsz
    go_region
    all_goals go_wp2
    all_goals exact bodyPost_ret (results_cct rfl _ _ w.heap.size (w.heap.size + 1) 61 44 _ _ (0, 0) (0, 0) _ _ rfl Z0.out Tryd.underlying61 rfl (by kernel_rfl) rfl Z1.out Tryd.underlying44 rfl (by kernel_rfl)) rfl ⟨_, rfl, ⟨_, _, rfl, Z2.out, Z5.out⟩, ZB.out⟩
end Go.Proofs.YtmlifggklaeieaaDoor.Hi

/- The world's queries, in the form that the printed texts ask for. -/
namespace Go.Proofs.YtmlifggklaeieaaDoor.Pt
open Go Go.RowKit Go.Proofs.YtmlifggklaeieaaDoor.Nm Go.Proofs.YtmlifggklaeieaaDoor.Hi Go.Proofs.YtmlifggklaeieaaDoorW.PrintWords Go.Proofs.YtmlifggklaeieaaDoorW.PrintLast Go.Proofs.YtmlifggklaeieaaDoorW.PrintMore
set_option linter.unusedVariables false
set_option linter.unusedSimpArgs false

def hier_World_Class.f (a0 : List Hi.Ent) (a1 : Int) : Option (ByteArray × ByteArray × (List ByteArray) × Int × Int × (List (S51)) × Int) :=
  some ((classF a0 a1).1.f0, (classF a0 a1).1.f1, (classF a0 a1).1.f2, (classF a0 a1).1.f3, (classF a0 a1).1.f4, (classF a0 a1).1.f5, (classF a0 a1).2)
theorem hier_World_Class.calls (G_ : Nat) (a0 : List Hi.Ent) (a1 : Int) (r1 : ByteArray) (r2 : ByteArray) (r3 : List ByteArray) (r4 : Int) (r5 : Int) (r6 : List (S51)) (r7 : Int) (w : World) (hq0 : WOK w G_ a0) (h : hier_World_Class.f a0 a1 = some (r1, r2, r3, r4, r5, r6, r7)) :
    Calls Tryd.prog 19 #[.pointer (some ⟨G_, 0, none⟩), .int .i64 a1] w fun e w' => ∃ v2_ v5_ : Value, e = .returned (.tuple #[.agg #[.string r1, .string r2, v2_, .int .i64 r4, .int .i64 r5, v5_], .int .i64 r7]) ∧ Kd.R Kd.string 9 w' w.heap.size (fun _ => True) v2_ r3 ∧ Kd.R k51 51 w' w.heap.size (fun _ => True) v5_ r6 ∧ Below w.heap.size w w' := by
  unfold hier_World_Class.f at h
  simp only [Option.some.injEq, Prod.mk.injEq] at h
  obtain ⟨rfl, rfl, rfl, rfl, rfl, rfl, rfl⟩ := h
  obtain ⟨base, v, mb, ps, hi⟩ := hq0.inn
  refine (class_any w base G_ v mb ps a0 hi hq0.small a1).mono ?_
  rintro e w' ⟨vc, rfl, ⟨v2, v5, rfl, R2, R5⟩, hb⟩
  exact ⟨v2, v5, rfl, R2, R5, hb⟩
def access_homeOf.f (a0 : List Hi.Ent) (a1 : Int) : Option (Int × ByteArray × ByteArray × ByteArray × (List ByteArray) × Int × Int × (List (S51)) × Int) :=
  some ((homeF a0 a1).1, (homeF a0 a1).2.1, (homeF a0 a1).2.2.1.f0, (homeF a0 a1).2.2.1.f1, (homeF a0 a1).2.2.1.f2, (homeF a0 a1).2.2.1.f3, (homeF a0 a1).2.2.1.f4, (homeF a0 a1).2.2.1.f5, (homeF a0 a1).2.2.2)
theorem access_homeOf.calls (G_ : Nat) (a0 : List Hi.Ent) (a1 : Int) (r1 : Int) (r2 : ByteArray) (r3 : ByteArray) (r4 : ByteArray) (r5 : List ByteArray) (r6 : Int) (r7 : Int) (r8 : List (S51)) (r9 : Int) (w : World) (hq0 : WOK w G_ a0) (h : access_homeOf.f a0 a1 = some (r1, r2, r3, r4, r5, r6, r7, r8, r9)) :
    Calls Tryd.prog 24 #[.pointer (some ⟨G_, 0, none⟩), .int .i64 a1] w fun e w' => ∃ v4_ v7_ : Value, e = .returned (.tuple #[.agg #[.int .i64 r1, .string r2], .agg #[.string r3, .string r4, v4_, .int .i64 r6, .int .i64 r7, v7_], .int .i64 r9]) ∧ Kd.R Kd.string 9 w' w.heap.size (fun _ => True) v4_ r5 ∧ Kd.R k51 51 w' w.heap.size (fun _ => True) v7_ r8 ∧ Below w.heap.size w w' := by
  unfold access_homeOf.f at h
  simp only [Option.some.injEq, Prod.mk.injEq] at h
  obtain ⟨rfl, rfl, rfl, rfl, rfl, rfl, rfl, rfl, rfl⟩ := h
  obtain ⟨base, v, mb, ps, hi⟩ := hq0.inn
  refine (home_any w base G_ v mb ps a0 hi hq0.named a1).mono ?_
  rintro e w' ⟨vc, rfl, ⟨v2, v5, rfl, R2, R5⟩, hb⟩
  exact ⟨v2, v5, rfl, R2, R5, hb⟩
def hier_World_ByName.f (a0 : List Hi.Ent) (a1 : ByteArray) : Option (Int × Int) := if a1.size ≤ 9223372036854775807 then some (nameF a0 a1) else none
theorem hier_World_ByName.calls (G_ : Nat) (a0 : List Hi.Ent) (a1 : ByteArray) (r1 : Int) (r2 : Int) (w : World) (hq0 : WOK w G_ a0) (h : hier_World_ByName.f a0 a1 = some (r1, r2)) :
    Calls Tryd.prog 25 #[.pointer (some ⟨G_, 0, none⟩), .string a1] w fun e w' => e = .returned (.tuple #[.int .i64 r1, .int .i64 r2]) ∧ Below w.heap.size w w' := by
  unfold hier_World_ByName.f at h
  obtain ⟨hs, h⟩ := if_some h
  have h := Option.some.inj h
  obtain rfl : (nameF a0 a1).1 = r1 := by rw [h]
  obtain rfl : (nameF a0 a1).2 = r2 := by rw [h]
  exact byName_any w G_ a0 hq0 a1 hs
def hier_World_IsIface.f (a0 : List Hi.Ent) (a1 : Int) : Option Bool := some (inB a0 a1 && isI (ent a0 a1).c)
theorem hier_World_IsIface.calls (G_ : Nat) (a0 : List Hi.Ent) (a1 : Int) (r : Bool) (w : World) (hq0 : WOK w G_ a0) (h : hier_World_IsIface.f a0 a1 = some r) :
    Calls Tryd.prog 27 #[.pointer (some ⟨G_, 0, none⟩), .int .i64 a1] w fun e w' => e = .returned (.bool r) ∧ Below w.heap.size w w' := by
  obtain rfl := Option.some.inj h
  exact isIface_any w G_ a0 hq0 a1
def hier_World_SamePackage.f (a0 : List Hi.Ent) (a1 : Int) (a2 : Int) : Option Bool := some (inB a0 a1 && inB a0 a2 && tog (ent a0 a1).c (ent a0 a2).c)
theorem hier_World_SamePackage.calls (G_ : Nat) (a0 : List Hi.Ent) (a1 : Int) (a2 : Int) (r : Bool) (w : World) (hq0 : WOK w G_ a0) (h : hier_World_SamePackage.f a0 a1 a2 = some r) :
    Calls Tryd.prog 20 #[.pointer (some ⟨G_, 0, none⟩), .int .i64 a1, .int .i64 a2] w fun e w' => e = .returned (.bool r) ∧ Below w.heap.size w w' := by
  obtain rfl := Option.some.inj h
  exact samePackage_any w G_ a0 hq0 a1 a2
def hier_World_Extends.f (a0 : List Hi.Ent) (a1 : Int) (a2 : Int) : Option Bool := some (extF a0 a1 a2)
theorem hier_World_Extends.calls (G_ : Nat) (a0 : List Hi.Ent) (a1 : Int) (a2 : Int) (r : Bool) (w : World) (hq0 : WOK w G_ a0) (h : hier_World_Extends.f a0 a1 a2 = some r) :
    Calls Tryd.prog 28 #[.pointer (some ⟨G_, 0, none⟩), .int .i64 a1, .int .i64 a2] w fun e w' => e = .returned (.bool r) ∧ Below w.heap.size w w' := by
  obtain rfl := Option.some.inj h
  exact extends_any w G_ a0 hq0 a1 a2
def hier_World_Method.f (a0 : List Hi.Ent) (a1_0 : Int) (a1_1 : Int) : Option (ByteArray × ByteArray × Int × Int × Int × (List (S83)) × Int) :=
  some ((methF a0 a1_0 a1_1).1.f0, (methF a0 a1_0 a1_1).1.f1, (methF a0 a1_0 a1_1).1.f2, (methF a0 a1_0 a1_1).1.f3, (methF a0 a1_0 a1_1).1.f4, (methF a0 a1_0 a1_1).1.f5, (methF a0 a1_0 a1_1).2)
theorem hier_World_Method.calls (G_ : Nat) (a0 : List Hi.Ent) (a1_0 : Int) (a1_1 : Int) (r1 : ByteArray) (r2 : ByteArray) (r3 : Int) (r4 : Int) (r5 : Int) (r6 : List (S83)) (r7 : Int) (w : World) (hq0 : WOK w G_ a0) (h : hier_World_Method.f a0 a1_0 a1_1 = some (r1, r2, r3, r4, r5, r6, r7)) :
    Calls Tryd.prog 21 #[.pointer (some ⟨G_, 0, none⟩), .agg #[.int .i64 a1_0, .int .i64 a1_1]] w fun e w' => ∃ v5_ : Value, e = .returned (.tuple #[.agg #[.string r1, .string r2, .int .i64 r3, .int .i64 r4, .int .i64 r5, v5_], .int .i64 r7]) ∧ Kd.R k83 83 w' w.heap.size (fun _ => True) v5_ r6 ∧ Below w.heap.size w w' := by
  unfold hier_World_Method.f at h
  simp only [Option.some.injEq, Prod.mk.injEq] at h
  obtain ⟨rfl, rfl, rfl, rfl, rfl, rfl, rfl⟩ := h
  cases hm : inM a0 a1_0 a1_1 with
  | true =>
    have hm2 := hm
    simp only [inM, inB, Bool.and_eq_true, decide_eq_true_eq] at hm2
    exact method_in w G_ a0 hq0 a1_0 a1_1 hm2.1.1 hm2.1.2 hm2.2.1 hm2.2.2
  | false => exact method_out w G_ a0 hq0 a1_0 a1_1 hm
def names_Package.f (a0 : ByteArray) : Option ByteArray := if a0.size < 4611686018427387904 then some (pkgB a0) else none
theorem names_Package.calls (a0 : ByteArray) (r : ByteArray) (w : World) (h : names_Package.f a0 = some r) :
    Calls Tryd.prog 39 #[.string a0] w fun e w' => e = .returned (.string r) ∧ Below w.heap.size w w' := by
  unfold names_Package.f at h
  obtain ⟨hs, h⟩ := if_some h
  obtain rfl := Option.some.inj h
  refine (package_any a0 hs w).mono ?_
  rintro e w' ⟨rfl, rfl⟩
  exact ⟨rfl, Below.refl _ _⟩
/-! ### a nil world -/
def access_Package_nil.f (a1 : Int) : Option (Int × ByteArray × Int) := some (0, ⟨#[]⟩, 2)
def access_ClassOpen_nil.f (a1 : Int) (a2 : Int) : Option (Bool × Int) := some (false, 2)
def access_TypeOpen_nil.f (a1 : Int) (a2_0 : Int) (a2_1 : ByteArray) : Option (Bool × Int) := some (false, 2)
def access_MethodOpen_nil.f (a1 : Int) (a2_0 : Int) (a2_1 : Int) (a3 : Int) : Option (Bool × Int) := some (false, 2)
end Go.Proofs.YtmlifggklaeieaaDoor.Pt

-- laid by a program of this session's own (a variant of the kit's print)
namespace Go.Proofs.YtmlifggklaeieaaDoor.Pt
open Go.RowKit Go.Proofs.YtmlifggklaeieaaDoorW.PrintWords Go.Proofs.YtmlifggklaeieaaDoorW.PrintLast Go.Proofs.YtmlifggklaeieaaDoorW.PrintMore
attribute [local go_sem] max2_int min2_int max_two min_two max_three min_three max_four min_four   -- for this text's walks alone
set_option linter.unusedVariables false
set_option linter.unusedSimpArgs false

/-! ### arrays_Loaded: function 15 -/
def arrays_Loaded.f (a0 : List Hi.Ent) (a1_0 : Int) (a1_1 : ByteArray) : Option (Int) := (types_Check.f a1_0 a1_1).bind fun t178 => (if t178 = 0 then ((hier_World_ByName.f a0 a1_1).bind fun bt179 => (if a1_1.toList = ([] : List UInt8) then (some 0) else (if bt179.2 = 0 then (some 0) else (some 20)))) else (some t178))
set_option maxHeartbeats 8000000 in
set_option maxRecDepth 100000 in
theorem arrays_Loaded.calls (G_ : Nat) (a0 : List Hi.Ent) (a1_0 : Int) (a1_1 : ByteArray) (r : Int) (w : World) (hq0 : WOK w G_ a0) (h : arrays_Loaded.f a0 a1_0 a1_1 = some r) :
    Calls Tryd.prog 15 #[.pointer (some ⟨G_, 0, none⟩), .agg #[.int .i64 a1_0, .string a1_1]] w fun e w' => e = .returned (.int .i64 r) ∧ Below w.heap.size w w' := by
  have hu28 := Tryd.underlying28
  have HQa0 := Aside0.mk hq0
  clear hq0
  have HB := Aside0.mk (Below.refl w.heap.size w)
  have H : ((types_Check.f a1_0 a1_1).bind fun t178 => (if t178 = 0 then ((hier_World_ByName.f a0 a1_1).bind fun bt179 => (if a1_1.toList = ([] : List UInt8) then (some 0) else (if bt179.2 = 0 then (some 0) else (some 20)))) else (some t178))) = some r := h
  clear h
  replace H := Option.bind_eq_some_iff.mp H
  obtain ⟨t178, A30, H⟩ := H
  replace H : (if t178 = 0 then ((hier_World_ByName.f a0 a1_1).bind fun bt179 => (if a1_1.toList = ([] : List UInt8) then (some 0) else (if bt179.2 = 0 then (some 0) else (some 20)))) else (some t178)) = some r := H
  have A3 := Aside0.mk A30
  clear A30
  by_cases c4 : t178 = 0
  · rw [if_pos c4] at H
    have c4b0 : (t178 == 0) = true := beq_iff_eq.mpr c4
    have c4b1 : (t178 != 0) = false := bne_eq_false_iff_eq.mpr c4
    clear c4
    replace H := Option.bind_eq_some_iff.mp H
    obtain ⟨⟨t179, t180⟩, A50, H⟩ := H
    replace H : (if a1_1.toList = ([] : List UInt8) then (some 0) else (if t180 = 0 then (some 0) else (some 20))) = some r := H
    have A5 := Aside0.mk A50
    clear A50
    by_cases c6 : a1_1.toList = ([] : List UInt8)
    · rw [if_pos c6] at H
      have c6b0 : (a1_1.toList == ([] : List UInt8)) = true := beq_iff_eq.mpr c6
      have c6b1 : (a1_1.toList != ([] : List UInt8)) = false := bne_eq_false_iff_eq.mpr c6
      clear c6
      obtain rfl := Option.some.inj H
      go_enter Tryd.func15, Tryd.ntmps15
      go_wp2_with (first | ((with_reducible refine gate_dst (N := 3) rfl ?_); refine box_event ?hg (N := 3) ?hd (cs := #[.int .i64 a1_0, .string a1_1]) (t := 28) ?hr ?_; (case hd => rfl); (case hg => rfl); (case hr => first | (go_simp; done) | (go_simp; rfl)); intro gb177 hg w7 hbox hb; have n0_ := Aside0.mk (below_step (by repeat (first | (with_reducible first | exact HB.out | apply below_alloc | apply pw_below_drewN | apply below_drew1) | exact HB.out)) hb); have n1_ := Aside0.mk (hbox); have n2_ := Aside0.mk ((by rw [hg]; exact (below_size (by repeat (first | (with_reducible first | exact HB.out | apply below_alloc | apply pw_below_drewN | apply below_drew1) | exact HB.out))) : w.heap.size ≤ gb177)); have n3_ := Aside0.mk ((by rw [hg]; exact (below_size (by repeat (first | (with_reducible first | exact HB.out | apply below_alloc | apply pw_below_drewN | apply below_drew1) | exact HB.out))) : w.heap.size ≤ gb177)); clear HB; have HB := n0_; have BK177 := n1_; have GW177 := n2_; have GE177 := n3_; clear n0_ n1_ n2_ n3_; clear hb hbox hg; have hcz8_0 : w7.cell? ⟨gb177, 0, none⟩ = some (.int .i64 a1_0) := (blk_cell BK177.out 0).trans rfl; have hcz8_1 : w7.cell? ⟨gb177, 1, none⟩ = some (.string a1_1) := (blk_cell BK177.out 1).trans rfl; have hfz8_0 := blk_frozen BK177.out 0; have hfz8_1 := blk_frozen BK177.out 1) | ((with_reducible refine gate_callee (f := 30) rfl ?_); refine goesL_ (some 11) rfl rfl Tryd.func30 (by kernel_rfl) rfl #[.agg #[.int .i64 a1_0, .string a1_1]] rfl (by (try simp only [List.map_toArray, List.map_cons, List.map_nil]); first | done | rfl | (simp only [List.length_drop, List.length_take]; rfl)) ?_; (with_reducible refine (types_Check.calls a1_0 a1_1 t178 _ A3.out).mono ?_); rintro e w9 ⟨rfl, hb⟩; refine ⟨_, rfl, ?_⟩; have n0_ := Aside0.mk (blk_below (g := gb177) (o := .cells #[.int .i64 a1_0, .string a1_1] 28 (0, 0)) (by (with_reducible repeat (first | refine blk_drewN ?_ _ | refine blk_drew ?_ | refine blk_alloc ?_ _)); exact BK177.out) hb); have n1_ := Aside0.mk (below_step (by repeat (first | (with_reducible first | exact HB.out | apply below_alloc | apply pw_below_drewN | apply below_drew1 | refine below_set ?_ GE177.out) | exact HB.out)) hb); clear BK177; clear HB; have BK177 := n0_; have HB := n1_; clear n0_ n1_; (try clear hb); (try clear hb2); (try clear hk); (try clear hi); have hcz10_0 : w9.cell? ⟨gb177, 0, none⟩ = some (.int .i64 a1_0) := (blk_cell BK177.out 0).trans rfl; have hcz10_1 : w9.cell? ⟨gb177, 1, none⟩ = some (.string a1_1) := (blk_cell BK177.out 1).trans rfl; have hfz10_0 := blk_frozen BK177.out 0; have hfz10_1 := blk_frozen BK177.out 1) | ((with_reducible refine gate_callee (f := 25) rfl ?_); refine goesL_ (some 19) rfl rfl Tryd.func25 (by kernel_rfl) rfl #[.pointer (some ⟨G_, 0, none⟩), .string a1_1] rfl (by (try simp only [List.map_toArray, List.map_cons, List.map_nil]); first | done | rfl | (simp only [List.length_drop, List.length_take]; rfl)) ?_; (with_reducible refine (hier_World_ByName.calls G_ a0 a1_1 t179 t180 _ ?side1 A5.out).mono ?_); (case side1 => repeat (first | (with_reducible exact HQa0.out) | (with_reducible refine WOK.alloc ?_ _) | (with_reducible refine WOK.drewN ?_ _) | (with_reducible refine WOK.drew ?_) | exact WOK.below HQa0.out HB.out | exact WOK.below HQa0.out (by repeat (first | (with_reducible first | exact HB.out | apply below_alloc | apply pw_below_drewN | apply below_drew1 | refine below_set ?_ GE177.out) | exact HB.out)))); rintro e w11 ⟨rfl, hb⟩; refine ⟨_, rfl, ?_⟩; have n0_ := Aside0.mk (blk_below (g := gb177) (o := .cells #[.int .i64 a1_0, .string a1_1] 28 (0, 0)) (by (with_reducible repeat (first | refine blk_drewN ?_ _ | refine blk_drew ?_ | refine blk_alloc ?_ _)); exact BK177.out) hb); have n1_ := Aside0.mk (below_step (by repeat (first | (with_reducible first | exact HB.out | apply below_alloc | apply pw_below_drewN | apply below_drew1 | refine below_set ?_ GE177.out) | exact HB.out)) hb); clear BK177; clear HB; have BK177 := n0_; have HB := n1_; clear n0_ n1_; (try clear hb); (try clear hb2); (try clear hk); (try clear hi); have hcz12_0 : w11.cell? ⟨gb177, 0, none⟩ = some (.int .i64 a1_0) := (blk_cell BK177.out 0).trans rfl; have hcz12_1 : w11.cell? ⟨gb177, 1, none⟩ = some (.string a1_1) := (blk_cell BK177.out 1).trans rfl; have hfz12_0 := blk_frozen BK177.out 0; have hfz12_1 := blk_frozen BK177.out 1))
      go_ret
      exact ⟨by first | rfl | (simp [errW_none, errW_some] <;> rfl) | (simp [*, errW_none, errW_some] <;> rfl), by repeat (first | (with_reducible first | exact HB.out | apply below_alloc | apply pw_below_drewN | apply below_drew1 | refine below_set ?_ GE177.out) | exact HB.out)⟩
    · rw [if_neg c6] at H
      have c6b0 : (a1_1.toList == ([] : List UInt8)) = false := beq_eq_false_iff_ne.mpr c6
      have c6b1 : (a1_1.toList != ([] : List UInt8)) = true := bne_iff_ne.mpr c6
      by_cases c13 : t180 = 0
      · rw [if_pos c13] at H
        have c13b0 : (t180 == 0) = true := beq_iff_eq.mpr c13
        have c13b1 : (t180 != 0) = false := bne_eq_false_iff_eq.mpr c13
        clear c13
        obtain rfl := Option.some.inj H
        go_enter Tryd.func15, Tryd.ntmps15
        go_wp2_with (first | ((with_reducible refine gate_dst (N := 3) rfl ?_); refine box_event ?hg (N := 3) ?hd (cs := #[.int .i64 a1_0, .string a1_1]) (t := 28) ?hr ?_; (case hd => rfl); (case hg => rfl); (case hr => first | (go_simp; done) | (go_simp; rfl)); intro gb177 hg w14 hbox hb; have n0_ := Aside0.mk (below_step (by repeat (first | (with_reducible first | exact HB.out | apply below_alloc | apply pw_below_drewN | apply below_drew1) | exact HB.out)) hb); have n1_ := Aside0.mk (hbox); have n2_ := Aside0.mk ((by rw [hg]; exact (below_size (by repeat (first | (with_reducible first | exact HB.out | apply below_alloc | apply pw_below_drewN | apply below_drew1) | exact HB.out))) : w.heap.size ≤ gb177)); have n3_ := Aside0.mk ((by rw [hg]; exact (below_size (by repeat (first | (with_reducible first | exact HB.out | apply below_alloc | apply pw_below_drewN | apply below_drew1) | exact HB.out))) : w.heap.size ≤ gb177)); clear HB; have HB := n0_; have BK177 := n1_; have GW177 := n2_; have GE177 := n3_; clear n0_ n1_ n2_ n3_; clear hb hbox hg; have hcz15_0 : w14.cell? ⟨gb177, 0, none⟩ = some (.int .i64 a1_0) := (blk_cell BK177.out 0).trans rfl; have hcz15_1 : w14.cell? ⟨gb177, 1, none⟩ = some (.string a1_1) := (blk_cell BK177.out 1).trans rfl; have hfz15_0 := blk_frozen BK177.out 0; have hfz15_1 := blk_frozen BK177.out 1) | ((with_reducible refine gate_callee (f := 30) rfl ?_); refine goesL_ (some 11) rfl rfl Tryd.func30 (by kernel_rfl) rfl #[.agg #[.int .i64 a1_0, .string a1_1]] rfl (by (try simp only [List.map_toArray, List.map_cons, List.map_nil]); first | done | rfl | (simp only [List.length_drop, List.length_take]; rfl)) ?_; (with_reducible refine (types_Check.calls a1_0 a1_1 t178 _ A3.out).mono ?_); rintro e w16 ⟨rfl, hb⟩; refine ⟨_, rfl, ?_⟩; have n0_ := Aside0.mk (blk_below (g := gb177) (o := .cells #[.int .i64 a1_0, .string a1_1] 28 (0, 0)) (by (with_reducible repeat (first | refine blk_drewN ?_ _ | refine blk_drew ?_ | refine blk_alloc ?_ _)); exact BK177.out) hb); have n1_ := Aside0.mk (below_step (by repeat (first | (with_reducible first | exact HB.out | apply below_alloc | apply pw_below_drewN | apply below_drew1 | refine below_set ?_ GE177.out) | exact HB.out)) hb); clear BK177; clear HB; have BK177 := n0_; have HB := n1_; clear n0_ n1_; (try clear hb); (try clear hb2); (try clear hk); (try clear hi); have hcz17_0 : w16.cell? ⟨gb177, 0, none⟩ = some (.int .i64 a1_0) := (blk_cell BK177.out 0).trans rfl; have hcz17_1 : w16.cell? ⟨gb177, 1, none⟩ = some (.string a1_1) := (blk_cell BK177.out 1).trans rfl; have hfz17_0 := blk_frozen BK177.out 0; have hfz17_1 := blk_frozen BK177.out 1) | ((with_reducible refine gate_callee (f := 25) rfl ?_); refine goesL_ (some 19) rfl rfl Tryd.func25 (by kernel_rfl) rfl #[.pointer (some ⟨G_, 0, none⟩), .string a1_1] rfl (by (try simp only [List.map_toArray, List.map_cons, List.map_nil]); first | done | rfl | (simp only [List.length_drop, List.length_take]; rfl)) ?_; (with_reducible refine (hier_World_ByName.calls G_ a0 a1_1 t179 t180 _ ?side1 A5.out).mono ?_); (case side1 => repeat (first | (with_reducible exact HQa0.out) | (with_reducible refine WOK.alloc ?_ _) | (with_reducible refine WOK.drewN ?_ _) | (with_reducible refine WOK.drew ?_) | exact WOK.below HQa0.out HB.out | exact WOK.below HQa0.out (by repeat (first | (with_reducible first | exact HB.out | apply below_alloc | apply pw_below_drewN | apply below_drew1 | refine below_set ?_ GE177.out) | exact HB.out)))); rintro e w18 ⟨rfl, hb⟩; refine ⟨_, rfl, ?_⟩; have n0_ := Aside0.mk (blk_below (g := gb177) (o := .cells #[.int .i64 a1_0, .string a1_1] 28 (0, 0)) (by (with_reducible repeat (first | refine blk_drewN ?_ _ | refine blk_drew ?_ | refine blk_alloc ?_ _)); exact BK177.out) hb); have n1_ := Aside0.mk (below_step (by repeat (first | (with_reducible first | exact HB.out | apply below_alloc | apply pw_below_drewN | apply below_drew1 | refine below_set ?_ GE177.out) | exact HB.out)) hb); clear BK177; clear HB; have BK177 := n0_; have HB := n1_; clear n0_ n1_; (try clear hb); (try clear hb2); (try clear hk); (try clear hi); have hcz19_0 : w18.cell? ⟨gb177, 0, none⟩ = some (.int .i64 a1_0) := (blk_cell BK177.out 0).trans rfl; have hcz19_1 : w18.cell? ⟨gb177, 1, none⟩ = some (.string a1_1) := (blk_cell BK177.out 1).trans rfl; have hfz19_0 := blk_frozen BK177.out 0; have hfz19_1 := blk_frozen BK177.out 1))
        go_ret
        exact ⟨by first | rfl | (simp [errW_none, errW_some] <;> rfl) | (simp [*, errW_none, errW_some] <;> rfl), by repeat (first | (with_reducible first | exact HB.out | apply below_alloc | apply pw_below_drewN | apply below_drew1 | refine below_set ?_ GE177.out) | exact HB.out)⟩
      · rw [if_neg c13] at H
        have c13b0 : (t180 == 0) = false := beq_eq_false_iff_ne.mpr c13
        have c13b1 : (t180 != 0) = true := bne_iff_ne.mpr c13
        obtain rfl := Option.some.inj H
        go_enter Tryd.func15, Tryd.ntmps15
        go_wp2_with (first | ((with_reducible refine gate_dst (N := 3) rfl ?_); refine box_event ?hg (N := 3) ?hd (cs := #[.int .i64 a1_0, .string a1_1]) (t := 28) ?hr ?_; (case hd => rfl); (case hg => rfl); (case hr => first | (go_simp; done) | (go_simp; rfl)); intro gb177 hg w20 hbox hb; have n0_ := Aside0.mk (below_step (by repeat (first | (with_reducible first | exact HB.out | apply below_alloc | apply pw_below_drewN | apply below_drew1) | exact HB.out)) hb); have n1_ := Aside0.mk (hbox); have n2_ := Aside0.mk ((by rw [hg]; exact (below_size (by repeat (first | (with_reducible first | exact HB.out | apply below_alloc | apply pw_below_drewN | apply below_drew1) | exact HB.out))) : w.heap.size ≤ gb177)); have n3_ := Aside0.mk ((by rw [hg]; exact (below_size (by repeat (first | (with_reducible first | exact HB.out | apply below_alloc | apply pw_below_drewN | apply below_drew1) | exact HB.out))) : w.heap.size ≤ gb177)); clear HB; have HB := n0_; have BK177 := n1_; have GW177 := n2_; have GE177 := n3_; clear n0_ n1_ n2_ n3_; clear hb hbox hg; have hcz21_0 : w20.cell? ⟨gb177, 0, none⟩ = some (.int .i64 a1_0) := (blk_cell BK177.out 0).trans rfl; have hcz21_1 : w20.cell? ⟨gb177, 1, none⟩ = some (.string a1_1) := (blk_cell BK177.out 1).trans rfl; have hfz21_0 := blk_frozen BK177.out 0; have hfz21_1 := blk_frozen BK177.out 1) | ((with_reducible refine gate_callee (f := 30) rfl ?_); refine goesL_ (some 11) rfl rfl Tryd.func30 (by kernel_rfl) rfl #[.agg #[.int .i64 a1_0, .string a1_1]] rfl (by (try simp only [List.map_toArray, List.map_cons, List.map_nil]); first | done | rfl | (simp only [List.length_drop, List.length_take]; rfl)) ?_; (with_reducible refine (types_Check.calls a1_0 a1_1 t178 _ A3.out).mono ?_); rintro e w22 ⟨rfl, hb⟩; refine ⟨_, rfl, ?_⟩; have n0_ := Aside0.mk (blk_below (g := gb177) (o := .cells #[.int .i64 a1_0, .string a1_1] 28 (0, 0)) (by (with_reducible repeat (first | refine blk_drewN ?_ _ | refine blk_drew ?_ | refine blk_alloc ?_ _)); exact BK177.out) hb); have n1_ := Aside0.mk (below_step (by repeat (first | (with_reducible first | exact HB.out | apply below_alloc | apply pw_below_drewN | apply below_drew1 | refine below_set ?_ GE177.out) | exact HB.out)) hb); clear BK177; clear HB; have BK177 := n0_; have HB := n1_; clear n0_ n1_; (try clear hb); (try clear hb2); (try clear hk); (try clear hi); have hcz23_0 : w22.cell? ⟨gb177, 0, none⟩ = some (.int .i64 a1_0) := (blk_cell BK177.out 0).trans rfl; have hcz23_1 : w22.cell? ⟨gb177, 1, none⟩ = some (.string a1_1) := (blk_cell BK177.out 1).trans rfl; have hfz23_0 := blk_frozen BK177.out 0; have hfz23_1 := blk_frozen BK177.out 1) | ((with_reducible refine gate_callee (f := 25) rfl ?_); refine goesL_ (some 19) rfl rfl Tryd.func25 (by kernel_rfl) rfl #[.pointer (some ⟨G_, 0, none⟩), .string a1_1] rfl (by (try simp only [List.map_toArray, List.map_cons, List.map_nil]); first | done | rfl | (simp only [List.length_drop, List.length_take]; rfl)) ?_; (with_reducible refine (hier_World_ByName.calls G_ a0 a1_1 t179 t180 _ ?side1 A5.out).mono ?_); (case side1 => repeat (first | (with_reducible exact HQa0.out) | (with_reducible refine WOK.alloc ?_ _) | (with_reducible refine WOK.drewN ?_ _) | (with_reducible refine WOK.drew ?_) | exact WOK.below HQa0.out HB.out | exact WOK.below HQa0.out (by repeat (first | (with_reducible first | exact HB.out | apply below_alloc | apply pw_below_drewN | apply below_drew1 | refine below_set ?_ GE177.out) | exact HB.out)))); rintro e w24 ⟨rfl, hb⟩; refine ⟨_, rfl, ?_⟩; have n0_ := Aside0.mk (blk_below (g := gb177) (o := .cells #[.int .i64 a1_0, .string a1_1] 28 (0, 0)) (by (with_reducible repeat (first | refine blk_drewN ?_ _ | refine blk_drew ?_ | refine blk_alloc ?_ _)); exact BK177.out) hb); have n1_ := Aside0.mk (below_step (by repeat (first | (with_reducible first | exact HB.out | apply below_alloc | apply pw_below_drewN | apply below_drew1 | refine below_set ?_ GE177.out) | exact HB.out)) hb); clear BK177; clear HB; have BK177 := n0_; have HB := n1_; clear n0_ n1_; (try clear hb); (try clear hb2); (try clear hk); (try clear hi); have hcz25_0 : w24.cell? ⟨gb177, 0, none⟩ = some (.int .i64 a1_0) := (blk_cell BK177.out 0).trans rfl; have hcz25_1 : w24.cell? ⟨gb177, 1, none⟩ = some (.string a1_1) := (blk_cell BK177.out 1).trans rfl; have hfz25_0 := blk_frozen BK177.out 0; have hfz25_1 := blk_frozen BK177.out 1))
        go_ret
        exact ⟨by first | rfl | (simp [errW_none, errW_some] <;> rfl) | (simp [*, errW_none, errW_some] <;> rfl), by repeat (first | (with_reducible first | exact HB.out | apply below_alloc | apply pw_below_drewN | apply below_drew1 | refine below_set ?_ GE177.out) | exact HB.out)⟩
  · rw [if_neg c4] at H
    have c4b0 : (t178 == 0) = false := beq_eq_false_iff_ne.mpr c4
    have c4b1 : (t178 != 0) = true := bne_iff_ne.mpr c4
    obtain rfl := Option.some.inj H
    go_enter Tryd.func15, Tryd.ntmps15
    go_wp2_with (first | ((with_reducible refine gate_dst (N := 3) rfl ?_); refine box_event ?hg (N := 3) ?hd (cs := #[.int .i64 a1_0, .string a1_1]) (t := 28) ?hr ?_; (case hd => rfl); (case hg => rfl); (case hr => first | (go_simp; done) | (go_simp; rfl)); intro gb177 hg w26 hbox hb; have n0_ := Aside0.mk (below_step (by repeat (first | (with_reducible first | exact HB.out | apply below_alloc | apply pw_below_drewN | apply below_drew1) | exact HB.out)) hb); have n1_ := Aside0.mk (hbox); have n2_ := Aside0.mk ((by rw [hg]; exact (below_size (by repeat (first | (with_reducible first | exact HB.out | apply below_alloc | apply pw_below_drewN | apply below_drew1) | exact HB.out))) : w.heap.size ≤ gb177)); have n3_ := Aside0.mk ((by rw [hg]; exact (below_size (by repeat (first | (with_reducible first | exact HB.out | apply below_alloc | apply pw_below_drewN | apply below_drew1) | exact HB.out))) : w.heap.size ≤ gb177)); clear HB; have HB := n0_; have BK177 := n1_; have GW177 := n2_; have GE177 := n3_; clear n0_ n1_ n2_ n3_; clear hb hbox hg; have hcz27_0 : w26.cell? ⟨gb177, 0, none⟩ = some (.int .i64 a1_0) := (blk_cell BK177.out 0).trans rfl; have hcz27_1 : w26.cell? ⟨gb177, 1, none⟩ = some (.string a1_1) := (blk_cell BK177.out 1).trans rfl; have hfz27_0 := blk_frozen BK177.out 0; have hfz27_1 := blk_frozen BK177.out 1) | ((with_reducible refine gate_callee (f := 30) rfl ?_); refine goesL_ (some 11) rfl rfl Tryd.func30 (by kernel_rfl) rfl #[.agg #[.int .i64 a1_0, .string a1_1]] rfl (by (try simp only [List.map_toArray, List.map_cons, List.map_nil]); first | done | rfl | (simp only [List.length_drop, List.length_take]; rfl)) ?_; (with_reducible refine (types_Check.calls a1_0 a1_1 t178 _ A3.out).mono ?_); rintro e w28 ⟨rfl, hb⟩; refine ⟨_, rfl, ?_⟩; have n0_ := Aside0.mk (blk_below (g := gb177) (o := .cells #[.int .i64 a1_0, .string a1_1] 28 (0, 0)) (by (with_reducible repeat (first | refine blk_drewN ?_ _ | refine blk_drew ?_ | refine blk_alloc ?_ _)); exact BK177.out) hb); have n1_ := Aside0.mk (below_step (by repeat (first | (with_reducible first | exact HB.out | apply below_alloc | apply pw_below_drewN | apply below_drew1 | refine below_set ?_ GE177.out) | exact HB.out)) hb); clear BK177; clear HB; have BK177 := n0_; have HB := n1_; clear n0_ n1_; (try clear hb); (try clear hb2); (try clear hk); (try clear hi)))
    go_ret
    exact ⟨by first | rfl | (simp [errW_none, errW_some] <;> rfl) | (simp [*, errW_none, errW_some] <;> rfl), by repeat (first | (with_reducible first | exact HB.out | apply below_alloc | apply pw_below_drewN | apply below_drew1 | refine below_set ?_ GE177.out) | exact HB.out)⟩

end Go.Proofs.YtmlifggklaeieaaDoor.Pt

-- laid by a program of this session's own (a variant of the kit's print)
namespace Go.Proofs.YtmlifggklaeieaaDoor.Pt
open Go.RowKit Go.Proofs.YtmlifggklaeieaaDoorW.PrintWords Go.Proofs.YtmlifggklaeieaaDoorW.PrintLast Go.Proofs.YtmlifggklaeieaaDoorW.PrintMore
attribute [local go_sem] max2_int min2_int max_two min_two max_three min_three max_four min_four   -- for this text's walks alone
set_option linter.unusedVariables false
set_option linter.unusedSimpArgs false

theorem eqA28 (d : Nat) (w : World) (x0 y0 : Int) (x1 y1 : ByteArray) :
    (Op.equalIn (d + 2) 28 (.agg #[.int .i64 x0, .string x1]) (.agg #[.int .i64 y0, .string y1])).run Tryd.prog w = .ok (x0 == y0 && (x1.toList == y1.toList)) w := by
  refine eqA_of Tryd.underlying28 (by kernel_rfl) ?_
  refine eqf_cons (by rfl) (by go_simp; rfl) (by go_simp; rfl) (by go_simp) ?_
  exact eqf_last (by rfl) (by go_simp; rfl) (by go_simp; rfl) (by go_simp)
end Go.Proofs.YtmlifggklaeieaaDoor.Pt

-- laid by a program of this session's own (a variant of the kit's print)
namespace Go.Proofs.YtmlifggklaeieaaDoor.Pt
open Go.RowKit Go.Proofs.YtmlifggklaeieaaDoorW.PrintWords Go.Proofs.YtmlifggklaeieaaDoorW.PrintLast Go.Proofs.YtmlifggklaeieaaDoorW.PrintMore
attribute [local go_sem] max2_int min2_int max_two min_two max_three min_three max_four min_four   -- for this text's walks alone
set_option linter.unusedVariables false
set_option linter.unusedSimpArgs false

attribute [local go_sem high] eqA28
/-! ### arrays_isInt: function 45 -/
def arrays_isInt.f (a0_0 : Int) (a0_1 : ByteArray) : Option (Bool) := some (a0_0 == 0 && (a0_1.toList == ([] : List UInt8)))
set_option maxHeartbeats 8000000 in
set_option maxRecDepth 100000 in
theorem arrays_isInt.calls (a0_0 : Int) (a0_1 : ByteArray) (r : Bool) (w : World) (h : arrays_isInt.f a0_0 a0_1 = some r) :
    Calls Tryd.prog 45 #[.agg #[.int .i64 a0_0, .string a0_1]] w fun e w' => e = .returned (.bool r) ∧ Below w.heap.size w w' := by
  have hu28 := Tryd.underlying28
  have HB := Aside0.mk (Below.refl w.heap.size w)
  have H : (some (a0_0 == 0 && (a0_1.toList == ([] : List UInt8)))) = some r := h
  clear h
  obtain rfl := Option.some.inj H
  go_enter Tryd.func45, Tryd.ntmps45
  go_wp2_with (first | ((with_reducible refine gate_dst (N := 1) rfl ?_); refine box_event ?hg (N := 1) ?hd (cs := #[.int .i64 a0_0, .string a0_1]) (t := 28) ?hr ?_; (case hd => rfl); (case hg => rfl); (case hr => first | (go_simp; done) | (go_simp; rfl)); intro gb196 hg w2 hbox hb; have n0_ := Aside0.mk (below_step (by repeat (first | (with_reducible first | exact HB.out | apply below_alloc | apply pw_below_drewN | apply below_drew1) | exact HB.out)) hb); have n1_ := Aside0.mk (hbox); have n2_ := Aside0.mk ((by rw [hg]; exact (below_size (by repeat (first | (with_reducible first | exact HB.out | apply below_alloc | apply pw_below_drewN | apply below_drew1) | exact HB.out))) : w.heap.size ≤ gb196)); have n3_ := Aside0.mk ((by rw [hg]; exact (below_size (by repeat (first | (with_reducible first | exact HB.out | apply below_alloc | apply pw_below_drewN | apply below_drew1) | exact HB.out))) : w.heap.size ≤ gb196)); clear HB; have HB := n0_; have BK196 := n1_; have GW196 := n2_; have GE196 := n3_; clear n0_ n1_ n2_ n3_; clear hb hbox hg; have hcz3_0 : w2.cell? ⟨gb196, 0, none⟩ = some (.int .i64 a0_0) := (blk_cell BK196.out 0).trans rfl; have hcz3_1 : w2.cell? ⟨gb196, 1, none⟩ = some (.string a0_1) := (blk_cell BK196.out 1).trans rfl; have hfz3_0 := blk_frozen BK196.out 0; have hfz3_1 := blk_frozen BK196.out 1))
  go_ret
  exact ⟨by first | rfl | (simp [errW_none, errW_some] <;> rfl) | (simp [*, errW_none, errW_some] <;> rfl), by repeat (first | (with_reducible first | exact HB.out | apply below_alloc | apply pw_below_drewN | apply below_drew1 | refine below_set ?_ GE196.out) | exact HB.out)⟩

/-! ### arrays_top: function 46 -/
def arrays_top.f (a0 : ByteArray) : Option (Bool) := if a0.toList = ([79, 98, 106, 101, 99, 116] : List UInt8) then (some true) else (if a0.toList = ([67, 108, 111, 110, 101, 97, 98, 108, 101] : List UInt8) then (some true) else (some (a0.toList == ([83, 101, 114, 105, 97, 108, 105, 122, 97, 98, 108, 101] : List UInt8))))
set_option maxHeartbeats 8000000 in
set_option maxRecDepth 100000 in
theorem arrays_top.calls (a0 : ByteArray) (r : Bool) (w : World) (h : arrays_top.f a0 = some r) :
    Calls Tryd.prog 46 #[.string a0] w fun e w' => e = .returned (.bool r) ∧ Drawn0 w w' := by
  have H : (if a0.toList = ([79, 98, 106, 101, 99, 116] : List UInt8) then (some true) else (if a0.toList = ([67, 108, 111, 110, 101, 97, 98, 108, 101] : List UInt8) then (some true) else (some (a0.toList == ([83, 101, 114, 105, 97, 108, 105, 122, 97, 98, 108, 101] : List UInt8))))) = some r := h
  clear h
  by_cases c2 : a0.toList = ([79, 98, 106, 101, 99, 116] : List UInt8)
  · rw [if_pos c2] at H
    have c2b0 : (a0.toList == ([79, 98, 106, 101, 99, 116] : List UInt8)) = true := beq_iff_eq.mpr c2
    have c2b1 : (a0.toList != ([79, 98, 106, 101, 99, 116] : List UInt8)) = false := bne_eq_false_iff_eq.mpr c2
    clear c2
    obtain rfl := Option.some.inj H
    go_enter Tryd.func46, Tryd.ntmps46
    go_wp2
    go_ret
    exact ⟨by first | rfl | (simp; done) | (simp [*]; done), by repeat (first | exact Drawn0.refl _ | apply Drawn0.step)⟩
  · rw [if_neg c2] at H
    have c2b0 : (a0.toList == ([79, 98, 106, 101, 99, 116] : List UInt8)) = false := beq_eq_false_iff_ne.mpr c2
    have c2b1 : (a0.toList != ([79, 98, 106, 101, 99, 116] : List UInt8)) = true := bne_iff_ne.mpr c2
    by_cases c3 : a0.toList = ([67, 108, 111, 110, 101, 97, 98, 108, 101] : List UInt8)
    · rw [if_pos c3] at H
      have c3b0 : (a0.toList == ([67, 108, 111, 110, 101, 97, 98, 108, 101] : List UInt8)) = true := beq_iff_eq.mpr c3
      have c3b1 : (a0.toList != ([67, 108, 111, 110, 101, 97, 98, 108, 101] : List UInt8)) = false := bne_eq_false_iff_eq.mpr c3
      clear c3
      obtain rfl := Option.some.inj H
      go_enter Tryd.func46, Tryd.ntmps46
      go_wp2
      go_ret
      exact ⟨by first | rfl | (simp; done) | (simp [*]; done), by repeat (first | exact Drawn0.refl _ | apply Drawn0.step)⟩
    · rw [if_neg c3] at H
      have c3b0 : (a0.toList == ([67, 108, 111, 110, 101, 97, 98, 108, 101] : List UInt8)) = false := beq_eq_false_iff_ne.mpr c3
      have c3b1 : (a0.toList != ([67, 108, 111, 110, 101, 97, 98, 108, 101] : List UInt8)) = true := bne_iff_ne.mpr c3
      obtain rfl := Option.some.inj H
      go_enter Tryd.func46, Tryd.ntmps46
      go_wp2
      go_ret
      exact ⟨by first | rfl | (simp; done) | (simp [*]; done), by repeat (first | exact Drawn0.refl _ | apply Drawn0.step)⟩

end Go.Proofs.YtmlifggklaeieaaDoor.Pt

-- laid by a program of this session's own (a variant of the kit's print)
namespace Go.Proofs.YtmlifggklaeieaaDoor.Pt
open Go.RowKit Go.Proofs.YtmlifggklaeieaaDoorW.PrintWords Go.Proofs.YtmlifggklaeieaaDoorW.PrintLast Go.Proofs.YtmlifggklaeieaaDoorW.PrintMore
attribute [local go_sem] max2_int min2_int max_two min_two max_three min_three max_four min_four   -- for this text's walks alone
set_option linter.unusedVariables false
set_option linter.unusedSimpArgs false

attribute [local go_sem high] eqA28
/-! ### arrays_below: function 31 -/
mutual
def arrays_below.j1 : Nat → List Hi.Ent → Int → ByteArray → Int → ByteArray → Option (Bool)
  | 0, _, _, _, _, _ => none
  | k + 1, x0, x198000, x198001, x199000, x199001 => (arrays_isInt.f x198000 x198001).bind fun t199 => (if t199 = true then (arrays_below.j2 k x0 true x198000 x198001 x199000 x199001) else ((arrays_isInt.f x199000 x199001).bind fun t200 => (arrays_below.j2 k x0 t200 x198000 x198001 x199000 x199001)))
def arrays_below.j2 : Nat → List Hi.Ent → Bool → Int → ByteArray → Int → ByteArray → Option (Bool)
  | 0, _, _, _, _, _, _ => none
  | k + 1, x0, x27, x198000, x198001, x199000, x199001 => if x27 = true then (some (x198000 == x199000 && (x198001.toList == x199001.toList))) else (if x198000 > 0 then ((arrays_top.f x199001).bind fun t201 => (some t201)) else (if x199000 > 0 then (some false) else ((hier_World_ByName.f x0 x198001).bind fun bt202 => ((hier_World_ByName.f x0 x199001).bind fun bt204 => ((hier_World_Extends.f x0 bt202.1 bt204.1).bind fun t206 => (some t206))))))
def arrays_below.l0 : Nat → List Hi.Ent → Int → ByteArray → Int → ByteArray → Option (Bool)
  | 0, _, _, _, _, _ => none
  | k + 1, x0, x198000, x198001, x199000, x199001 => if x198000 > 0 then (if x199000 > 0 then (arrays_below.l0 k x0 (wrap64 (x198000 - 1)) x198001 (wrap64 (x199000 - 1)) x199001) else (arrays_below.j1 k x0 x198000 x198001 x199000 x199001)) else (arrays_below.j1 k x0 x198000 x198001 x199000 x199001)
end
def arrays_below.f (k : Nat) (a0 : List Hi.Ent) (a1_0 : Int) (a1_1 : ByteArray) (a2_0 : Int) (a2_1 : ByteArray) : Option (Bool) := arrays_below.l0 k a0 a1_0 a1_1 a2_0 a2_1
theorem arrays_below.mono_l : ∀ k, (∀ y0 y1 y2 y3 y4, LeO (arrays_below.j1 k y0 y1 y2 y3 y4) (arrays_below.j1 (k + 1) y0 y1 y2 y3 y4)) ∧ (∀ y0 y1 y2 y3 y4 y5, LeO (arrays_below.j2 k y0 y1 y2 y3 y4 y5) (arrays_below.j2 (k + 1) y0 y1 y2 y3 y4 y5)) ∧ (∀ y0 y1 y2 y3 y4, LeO (arrays_below.l0 k y0 y1 y2 y3 y4) (arrays_below.l0 (k + 1) y0 y1 y2 y3 y4))
  | 0 => ⟨fun _ _ _ _ _ r h => by simp [arrays_below.j1] at h, fun _ _ _ _ _ _ r h => by simp [arrays_below.j2] at h, fun _ _ _ _ _ r h => by simp [arrays_below.l0] at h⟩
  | k + 1 => by
    obtain ⟨ih0, ih1, ih2⟩ := arrays_below.mono_l k
    refine ⟨?_, ?_, ?_⟩
    · intro y0 y1 y2 y3 y4
      unfold arrays_below.j1
      repeat' first
      | (with_reducible exact ih0 _ _ _ _ _)
      | (with_reducible exact ih1 _ _ _ _ _ _)
      | (with_reducible exact ih2 _ _ _ _ _)
      | (with_reducible exact LeO.refl _)
      | (with_reducible exact LeO.none _)
      | (with_reducible refine LeO.ite ?_ ?_)
      | (with_reducible refine LeO.bind ?_ (fun _ => ?_))
      | exact ih0 _ _ _ _ _
      | exact ih1 _ _ _ _ _ _
      | exact ih2 _ _ _ _ _
      | exact LeO.none _
      | refine LeO.ite ?_ ?_
      | refine LeO.bind ?_ (fun _ => ?_)
    · intro y0 y1 y2 y3 y4 y5
      unfold arrays_below.j2
      repeat' first
      | (with_reducible exact ih0 _ _ _ _ _)
      | (with_reducible exact ih1 _ _ _ _ _ _)
      | (with_reducible exact ih2 _ _ _ _ _)
      | (with_reducible exact LeO.refl _)
      | (with_reducible exact LeO.none _)
      | (with_reducible refine LeO.ite ?_ ?_)
      | (with_reducible refine LeO.bind ?_ (fun _ => ?_))
      | exact ih0 _ _ _ _ _
      | exact ih1 _ _ _ _ _ _
      | exact ih2 _ _ _ _ _
      | exact LeO.none _
      | refine LeO.ite ?_ ?_
      | refine LeO.bind ?_ (fun _ => ?_)
    · intro y0 y1 y2 y3 y4
      unfold arrays_below.l0
      repeat' first
      | (with_reducible exact ih0 _ _ _ _ _)
      | (with_reducible exact ih1 _ _ _ _ _ _)
      | (with_reducible exact ih2 _ _ _ _ _)
      | (with_reducible exact LeO.refl _)
      | (with_reducible exact LeO.none _)
      | (with_reducible refine LeO.ite ?_ ?_)
      | (with_reducible refine LeO.bind ?_ (fun _ => ?_))
      | exact ih0 _ _ _ _ _
      | exact ih1 _ _ _ _ _ _
      | exact ih2 _ _ _ _ _
      | exact LeO.none _
      | refine LeO.ite ?_ ?_
      | refine LeO.bind ?_ (fun _ => ?_)
theorem arrays_below.mono : ∀ a0 a1 a2 a3 a4 k, LeO (arrays_below.f k a0 a1 a2 a3 a4) (arrays_below.f (k + 1) a0 a1 a2 a3 a4) := by
  intro a0 a1 a2 a3 a4 k
  obtain ⟨ih0, ih1, ih2⟩ := arrays_below.mono_l k
  unfold arrays_below.f
  repeat' first
      | (with_reducible exact ih0 _ _ _ _ _)
      | (with_reducible exact ih1 _ _ _ _ _ _)
      | (with_reducible exact ih2 _ _ _ _ _)
      | (with_reducible exact LeO.refl _)
      | (with_reducible exact LeO.none _)
      | (with_reducible refine LeO.ite ?_ ?_)
      | (with_reducible refine LeO.bind ?_ (fun _ => ?_))
      | exact ih0 _ _ _ _ _
      | exact ih1 _ _ _ _ _ _
      | exact ih2 _ _ _ _ _
      | exact LeO.none _
      | refine LeO.ite ?_ ?_
      | refine LeO.bind ?_ (fun _ => ?_)
set_option maxHeartbeats 8000000 in
set_option maxRecDepth 100000 in
theorem arrays_below.calls (k : Nat) (G_ : Nat) (a0 : List Hi.Ent) (a1_0 : Int) (a1_1 : ByteArray) (a2_0 : Int) (a2_1 : ByteArray) (r : Bool) (w : World) (hq0 : WOK w G_ a0) (h : arrays_below.f k a0 a1_0 a1_1 a2_0 a2_1 = some r) :
    Calls Tryd.prog 31 #[.pointer (some ⟨G_, 0, none⟩), .agg #[.int .i64 a1_0, .string a1_1], .agg #[.int .i64 a2_0, .string a2_1]] w fun e w' => e = .returned (.bool r) ∧ Below w.heap.size w w' := by
  have hu28 := Tryd.underlying28
  have HQa0 := Aside0.mk hq0
  clear hq0
  have HB := Aside0.mk (Below.refl w.heap.size w)
  have H : (arrays_below.l0 k a0 a1_0 a1_1 a2_0 a2_1) = some r := h
  clear h
  have HC4 := Aside0.mk H
  clear H
  go_enter Tryd.func31, Tryd.ntmps31
  go_upto_block 0 with (first | ((with_reducible refine gate_dst (N := 4) rfl ?_); refine box_event ?hg (N := 4) ?hd (cs := #[.int .i64 a1_0, .string a1_1]) (t := 28) ?hr ?_; (case hd => rfl); (case hg => rfl); (case hr => first | (go_simp; done) | (go_simp; rfl)); intro gb197 hg w5 hbox hb; have n0_ := Aside0.mk (below_step (by repeat (first | (with_reducible first | exact HB.out | apply below_alloc | apply pw_below_drewN | apply below_drew1) | exact HB.out)) hb); have n1_ := Aside0.mk (hbox); have n2_ := Aside0.mk ((by rw [hg]; exact (below_size (by repeat (first | (with_reducible first | exact HB.out | apply below_alloc | apply pw_below_drewN | apply below_drew1) | exact HB.out))) : w.heap.size ≤ gb197)); have n3_ := Aside0.mk ((by rw [hg]; exact (below_size (by repeat (first | (with_reducible first | exact HB.out | apply below_alloc | apply pw_below_drewN | apply below_drew1) | exact HB.out))) : w.heap.size ≤ gb197)); clear HB; have HB := n0_; have BK197 := n1_; have GW197 := n2_; have GE197 := n3_; clear n0_ n1_ n2_ n3_; clear hb hbox hg) | ((with_reducible refine gate_dst (N := 5) rfl ?_); refine box_event ?hg (N := 5) ?hd (cs := #[.int .i64 a2_0, .string a2_1]) (t := 28) ?hr ?_; (case hd => rfl); (case hg => rfl); (case hr => first | (go_simp; done) | (go_simp; rfl)); intro gb198 hg w6 hbox hb; have n0_ := Aside0.mk (blk_below (g := gb197) (o := .cells #[.int .i64 a1_0, .string a1_1] 28 (0, 0)) (by (with_reducible repeat (first | refine blk_drewN ?_ _ | refine blk_drew ?_ | refine blk_alloc ?_ _)); exact BK197.out) hb); have n1_ := Aside0.mk (below_step (by repeat (first | (with_reducible first | exact HB.out | apply below_alloc | apply pw_below_drewN | apply below_drew1 | refine below_set ?_ GE197.out) | exact HB.out)) hb); have n2_ := Aside0.mk (hbox); have n3_ := Aside0.mk ((by rw [hg]; exact (below_size (by repeat (first | (with_reducible first | exact HB.out | apply below_alloc | apply pw_below_drewN | apply below_drew1 | refine below_set ?_ GE197.out) | exact HB.out))) : w.heap.size ≤ gb198)); have n4_ := Aside0.mk ((by rw [hg]; exact (below_size (by repeat (first | (with_reducible first | exact HB.out | apply below_alloc | apply pw_below_drewN | apply below_drew1 | refine below_set ?_ GE197.out) | exact HB.out))) : w.heap.size ≤ gb198)); have n5_ := Aside0.mk ((by rw [hg]; exact Nat.ne_of_lt (blk_lt (g := gb197) (o := .cells #[.int .i64 a1_0, .string a1_1] 28 (0, 0)) (by (with_reducible repeat (first | refine blk_drewN ?_ _ | refine blk_drew ?_ | refine blk_alloc ?_ _)); exact BK197.out)) : gb197 ≠ gb198)); have n6_ := Aside0.mk ((by rw [hg]; exact Nat.ne_of_gt (blk_lt (g := gb197) (o := .cells #[.int .i64 a1_0, .string a1_1] 28 (0, 0)) (by (with_reducible repeat (first | refine blk_drewN ?_ _ | refine blk_drew ?_ | refine blk_alloc ?_ _)); exact BK197.out)) : gb198 ≠ gb197)); clear BK197; clear HB; have BK197 := n0_; have HB := n1_; have BK198 := n2_; have GW198 := n3_; have GE198 := n4_; have NB197_198 := n5_; have NB198_197 := n6_; clear n0_ n1_ n2_ n3_ n4_ n5_ n6_; clear hb hbox hg))
  (try simp only [Act.put, List.setIfInBounds_toArray, List.set_cons_zero, List.set_cons_succ])
  go_cut [] (fun wc => ∃ (kq : Nat) (x198000_3 : Int) (x199000_3 : Int), Aside0 (arrays_below.j1 kq a0 x198000_3 a1_1 x199000_3 a2_1 = some r) ∧ Aside0 (kq ≤ k) ∧ Aside0 (wc.heap[gb197]? = some (.cells #[.int .i64 x198000_3, .string a1_1] 28 (0, 0))) ∧ Aside0 (wc.heap[gb198]? = some (.cells #[.int .i64 x199000_3, .string a2_1] 28 (0, 0))) ∧ Aside0 (Below w.heap.size w wc))
  case first =>
    have H := HC4.out
    clear HC4
    have H' := Aside0.mk H
    clear H
    go_wp2
    go_loopg [] k (fun kq w' => ∃ (x198000_1 : Int) (x199000_1 : Int), Aside0 (arrays_below.l0 kq a0 x198000_1 a1_1 x199000_1 a2_1 = some r) ∧ Aside0 (kq ≤ k) ∧ Aside0 (w'.heap[gb197]? = some (.cells #[.int .i64 x198000_1, .string a1_1] 28 (0, 0))) ∧ Aside0 (w'.heap[gb198]? = some (.cells #[.int .i64 x199000_1, .string a2_1] 28 (0, 0))) ∧ Aside0 (Below w.heap.size w w'))
    case atStart => exact ⟨(a1_0), (a2_0), H', ⟨Nat.le_refl _⟩, ⟨by (with_reducible repeat (first | refine blk_drewN ?_ _ | refine blk_drew ?_ | refine blk_alloc ?_ _)); exact BK197.out⟩, ⟨by (with_reducible repeat (first | refine blk_drewN ?_ _ | refine blk_drew ?_ | refine blk_alloc ?_ _)); exact BK198.out⟩, ⟨by repeat (first | (with_reducible first | exact HB.out | apply below_alloc | apply pw_below_drewN | apply below_drew1 | refine below_set ?_ GE197.out | refine below_set ?_ GE198.out) | exact HB.out)⟩⟩
    case round =>
      clear H'
      try clear p2
      try clear c3
      obtain ⟨x198000_1, x199000_1, HA, HK1, BK197, BK198, HB⟩ := hrel
      cases gk with
      | zero => exact absurd HA.out (by simp [arrays_below.l0])
      | succ k1 =>
        have H := HA.out
        clear HA
        simp only [arrays_below.l0] at H
        by_cases c7 : x198000_1 > 0
        · rw [if_pos c7] at H
          have c7b0 : decide (0 < x198000_1) = true := decide_eq_true c7
          clear c7
          (first | rw [c7b0] | (simp only [i64_w, i32_w]; rw [c7b0]) | skip)
          by_cases c8 : x199000_1 > 0
          · rw [if_pos c8] at H
            have c8b0 : decide (0 < x199000_1) = true := decide_eq_true c8
            clear c8
            have H' := Aside0.mk H
            clear H
            have hnb9 := NB197_198.out
            have hnc9 := NB198_197.out
            have hcz10_0 : wr.cell? ⟨gb197, 0, none⟩ = some (.int .i64 x198000_1) := (blk_cell BK197.out 0).trans rfl
            have hcz10_1 : wr.cell? ⟨gb197, 1, none⟩ = some (.string a1_1) := (blk_cell BK197.out 1).trans rfl
            have hfz10_0 := blk_frozen BK197.out 0
            have hfz10_1 := blk_frozen BK197.out 1
            have hcz11_0 : wr.cell? ⟨gb198, 0, none⟩ = some (.int .i64 x199000_1) := (blk_cell BK198.out 0).trans rfl
            have hcz11_1 : wr.cell? ⟨gb198, 1, none⟩ = some (.string a2_1) := (blk_cell BK198.out 1).trans rfl
            have hfz11_0 := blk_frozen BK198.out 0
            have hfz11_1 := blk_frozen BK198.out 1
            go_wp2
            go_roundg k1
            case measure => have := HK1.out; omega
            case rel => exact ⟨(wrap64 (x198000_1 - 1)), (wrap64 (x199000_1 - 1)), H', ⟨by have := HK1.out; omega⟩, ⟨by (with_reducible repeat (first | refine blk_drewN ?_ _ | refine blk_drew ?_ | refine blk_alloc ?_ _)); refine blk_far ?_ NB197_198.out _; (with_reducible repeat (first | refine blk_drewN ?_ _ | refine blk_drew ?_ | refine blk_alloc ?_ _)); refine blk_put (cs := #[.int .i64 x198000_1, .string a1_1]) ?_ 0 _ rfl; (with_reducible repeat (first | refine blk_drewN ?_ _ | refine blk_drew ?_ | refine blk_alloc ?_ _)); exact BK197.out⟩, ⟨by (with_reducible repeat (first | refine blk_drewN ?_ _ | refine blk_drew ?_ | refine blk_alloc ?_ _)); refine blk_put (cs := #[.int .i64 x199000_1, .string a2_1]) ?_ 0 _ rfl; (with_reducible repeat (first | refine blk_drewN ?_ _ | refine blk_drew ?_ | refine blk_alloc ?_ _)); refine blk_far ?_ NB198_197.out _; (with_reducible repeat (first | refine blk_drewN ?_ _ | refine blk_drew ?_ | refine blk_alloc ?_ _)); exact BK198.out⟩, ⟨by repeat (first | (with_reducible first | exact HB.out | apply below_alloc | apply pw_below_drewN | apply below_drew1 | refine below_set ?_ GE197.out | refine below_set ?_ GE198.out) | exact HB.out)⟩⟩
          · rw [if_neg c8] at H
            have c8b0 : decide (0 < x199000_1) = false := decide_eq_false c8
            clear c8
            have H' := Aside0.mk H
            clear H
            have hnb12 := NB197_198.out
            have hnc12 := NB198_197.out
            have hcz13_0 : wr.cell? ⟨gb197, 0, none⟩ = some (.int .i64 x198000_1) := (blk_cell BK197.out 0).trans rfl
            have hcz13_1 : wr.cell? ⟨gb197, 1, none⟩ = some (.string a1_1) := (blk_cell BK197.out 1).trans rfl
            have hfz13_0 := blk_frozen BK197.out 0
            have hfz13_1 := blk_frozen BK197.out 1
            have hcz14_0 : wr.cell? ⟨gb198, 0, none⟩ = some (.int .i64 x199000_1) := (blk_cell BK198.out 0).trans rfl
            have hcz14_1 : wr.cell? ⟨gb198, 1, none⟩ = some (.string a2_1) := (blk_cell BK198.out 1).trans rfl
            have hfz14_0 := blk_frozen BK198.out 0
            have hfz14_1 := blk_frozen BK198.out 1
            go_wp2
            go_meet
            case rel => exact ⟨_, (x198000_1), (x199000_1), H', ⟨by have := HK1.out; first | omega | exact Nat.le_refl _⟩, ⟨by (with_reducible repeat (first | refine blk_drewN ?_ _ | refine blk_drew ?_ | refine blk_alloc ?_ _)); exact BK197.out⟩, ⟨by (with_reducible repeat (first | refine blk_drewN ?_ _ | refine blk_drew ?_ | refine blk_alloc ?_ _)); exact BK198.out⟩, ⟨by repeat (first | (with_reducible first | exact HB.out | apply below_alloc | apply pw_below_drewN | apply below_drew1 | refine below_set ?_ GE197.out | refine below_set ?_ GE198.out) | exact HB.out)⟩⟩
        · rw [if_neg c7] at H
          have c7b0 : decide (0 < x198000_1) = false := decide_eq_false c7
          clear c7
          (first | rw [c7b0] | (simp only [i64_w, i32_w]; rw [c7b0]) | skip)
          have H' := Aside0.mk H
          clear H
          have hnb15 := NB197_198.out
          have hnc15 := NB198_197.out
          have hcz16_0 : wr.cell? ⟨gb197, 0, none⟩ = some (.int .i64 x198000_1) := (blk_cell BK197.out 0).trans rfl
          have hcz16_1 : wr.cell? ⟨gb197, 1, none⟩ = some (.string a1_1) := (blk_cell BK197.out 1).trans rfl
          have hfz16_0 := blk_frozen BK197.out 0
          have hfz16_1 := blk_frozen BK197.out 1
          go_wp2
          go_meet
          case rel => exact ⟨_, (x198000_1), (x199000_1), H', ⟨by have := HK1.out; first | omega | exact Nat.le_refl _⟩, ⟨by (with_reducible repeat (first | refine blk_drewN ?_ _ | refine blk_drew ?_ | refine blk_alloc ?_ _)); exact BK197.out⟩, ⟨by (with_reducible repeat (first | refine blk_drewN ?_ _ | refine blk_drew ?_ | refine blk_alloc ?_ _)); exact BK198.out⟩, ⟨by repeat (first | (with_reducible first | exact HB.out | apply below_alloc | apply pw_below_drewN | apply below_drew1 | refine below_set ?_ GE197.out | refine below_set ?_ GE198.out) | exact HB.out)⟩⟩
  case rest =>
    clear HC4
    try clear c1
    try clear p2
    try clear c3
    try clear p6
    try clear c7
    try clear c7b0
    try clear c8
    try clear c8b0
    try clear c9
    try clear c12
    try clear c15
    try clear hcz10_0
    try clear hcz10_1
    try clear hcz11_0
    try clear hcz11_1
    try clear hcz13_0
    try clear hcz13_1
    try clear hcz14_0
    try clear hcz14_1
    try clear hcz16_0
    try clear hcz16_1
    try clear hfz10_0
    try clear hfz10_1
    try clear hfz11_0
    try clear hfz11_1
    try clear hfz13_0
    try clear hfz13_1
    try clear hfz14_0
    try clear hfz14_1
    try clear hfz16_0
    try clear hfz16_1
    try clear p2
    obtain ⟨kq, x198000_3, x199000_3, HA, HJ3, BK197, BK198, HB⟩ := hcut
    cases kq with
    | zero => exact absurd HA.out (by simp [arrays_below.j1])
    | succ kj3 =>
      have H := HA.out
      clear HA
      simp only [arrays_below.j1] at H
      have HC17 := Aside0.mk H
      clear H
      go_upto_region 4 with (fail)
      go_cut [27] (fun v27 wc => ∃ (kq : Nat) (x27_16 : Bool), v27 = .bool x27_16 ∧ Aside0 (arrays_below.j2 kq a0 x27_16 x198000_3 a1_1 x199000_3 a2_1 = some r) ∧ Aside0 (kq ≤ kj3) ∧ Aside0 (wc.heap[gb197]? = some (.cells #[.int .i64 x198000_3, .string a1_1] 28 (0, 0))) ∧ Aside0 (wc.heap[gb198]? = some (.cells #[.int .i64 x199000_3, .string a2_1] 28 (0, 0))) ∧ Aside0 (Below w.heap.size w wc))
      case first =>
        have H := HC17.out
        clear HC17
        replace H := Option.bind_eq_some_iff.mp H
        obtain ⟨t199, A180, H⟩ := H
        replace H : (if t199 = true then (arrays_below.j2 kj3 a0 true x198000_3 a1_1 x199000_3 a2_1) else ((arrays_isInt.f x199000_3 a2_1).bind fun t200 => (arrays_below.j2 kj3 a0 t200 x198000_3 a1_1 x199000_3 a2_1))) = some r := H
        have A18 := Aside0.mk A180
        clear A180
        by_cases c19 : t199 = true
        · subst c19
          have H1 : (arrays_below.j2 kj3 a0 true x198000_3 a1_1 x199000_3 a2_1) = some r := by rw [if_pos rfl] at H; exact H
          clear H
          have H := H1
          clear H1
          have H' := Aside0.mk H
          clear H
          have hnb20 := NB197_198.out
          have hnc20 := NB198_197.out
          have hcz21_0 : wc.cell? ⟨gb197, 0, none⟩ = some (.int .i64 x198000_3) := (blk_cell BK197.out 0).trans rfl
          have hcz21_1 : wc.cell? ⟨gb197, 1, none⟩ = some (.string a1_1) := (blk_cell BK197.out 1).trans rfl
          have hfz21_0 := blk_frozen BK197.out 0
          have hfz21_1 := blk_frozen BK197.out 1
          go_wp2_with (first | ((with_reducible refine gate_callee (f := 45) rfl ?_); refine goesL_ (some 29) rfl rfl Tryd.func45 (by kernel_rfl) rfl #[.agg #[.int .i64 x198000_3, .string a1_1]] rfl (by (try simp only [List.map_toArray, List.map_cons, List.map_nil]); first | done | rfl | (simp only [List.length_drop, List.length_take]; rfl)) ?_; (with_reducible refine (arrays_isInt.calls x198000_3 a1_1 true _ A18.out).mono ?_); rintro e w22 ⟨rfl, hb⟩; refine ⟨_, rfl, ?_⟩; have n0_ := Aside0.mk (blk_below (g := gb197) (o := .cells #[.int .i64 x198000_3, .string a1_1] 28 (0, 0)) (by (with_reducible repeat (first | refine blk_drewN ?_ _ | refine blk_drew ?_ | refine blk_alloc ?_ _)); exact BK197.out) hb); have n1_ := Aside0.mk (blk_below (g := gb198) (o := .cells #[.int .i64 x199000_3, .string a2_1] 28 (0, 0)) (by (with_reducible repeat (first | refine blk_drewN ?_ _ | refine blk_drew ?_ | refine blk_alloc ?_ _)); exact BK198.out) hb); have n2_ := Aside0.mk (below_step (by repeat (first | (with_reducible first | exact HB.out | apply below_alloc | apply pw_below_drewN | apply below_drew1 | refine below_set ?_ GE197.out | refine below_set ?_ GE198.out) | exact HB.out)) hb); clear BK197; clear BK198; clear HB; have BK197 := n0_; have BK198 := n1_; have HB := n2_; clear n0_ n1_ n2_; (try clear hb); (try clear hb2); (try clear hk); (try clear hi)))
          go_meet
          case rel => exact ⟨_, (true), (by first | rfl | (simp; done) | (simp [*]; done)), H', ⟨by have := HJ3.out; first | omega | exact Nat.le_refl _⟩, ⟨by (with_reducible repeat (first | refine blk_drewN ?_ _ | refine blk_drew ?_ | refine blk_alloc ?_ _)); exact BK197.out⟩, ⟨by (with_reducible repeat (first | refine blk_drewN ?_ _ | refine blk_drew ?_ | refine blk_alloc ?_ _)); exact BK198.out⟩, ⟨by repeat (first | (with_reducible first | exact HB.out | apply below_alloc | apply pw_below_drewN | apply below_drew1 | refine below_set ?_ GE197.out | refine below_set ?_ GE198.out) | exact HB.out)⟩⟩
        · replace c19 := Bool.eq_false_iff.mpr c19
          subst c19
          have H1 : ((arrays_isInt.f x199000_3 a2_1).bind fun t200 => (arrays_below.j2 kj3 a0 t200 x198000_3 a1_1 x199000_3 a2_1)) = some r := by rw [if_neg (show ¬ (false = true) by decide)] at H; exact H
          clear H
          have H := H1
          clear H1
          replace H := Option.bind_eq_some_iff.mp H
          obtain ⟨t200, A230, H⟩ := H
          replace H : (arrays_below.j2 kj3 a0 t200 x198000_3 a1_1 x199000_3 a2_1) = some r := H
          have A23 := Aside0.mk A230
          clear A230
          have H' := Aside0.mk H
          clear H
          have hnb24 := NB197_198.out
          have hnc24 := NB198_197.out
          have hcz25_0 : wc.cell? ⟨gb197, 0, none⟩ = some (.int .i64 x198000_3) := (blk_cell BK197.out 0).trans rfl
          have hcz25_1 : wc.cell? ⟨gb197, 1, none⟩ = some (.string a1_1) := (blk_cell BK197.out 1).trans rfl
          have hfz25_0 := blk_frozen BK197.out 0
          have hfz25_1 := blk_frozen BK197.out 1
          go_wp2_with (first | ((with_reducible refine gate_callee (f := 45) rfl ?_); refine goesL_ (some 29) rfl rfl Tryd.func45 (by kernel_rfl) rfl #[.agg #[.int .i64 x198000_3, .string a1_1]] rfl (by (try simp only [List.map_toArray, List.map_cons, List.map_nil]); first | done | rfl | (simp only [List.length_drop, List.length_take]; rfl)) ?_; (with_reducible refine (arrays_isInt.calls x198000_3 a1_1 false _ A18.out).mono ?_); rintro e w26 ⟨rfl, hb⟩; refine ⟨_, rfl, ?_⟩; have n0_ := Aside0.mk (blk_below (g := gb197) (o := .cells #[.int .i64 x198000_3, .string a1_1] 28 (0, 0)) (by (with_reducible repeat (first | refine blk_drewN ?_ _ | refine blk_drew ?_ | refine blk_alloc ?_ _)); exact BK197.out) hb); have n1_ := Aside0.mk (blk_below (g := gb198) (o := .cells #[.int .i64 x199000_3, .string a2_1] 28 (0, 0)) (by (with_reducible repeat (first | refine blk_drewN ?_ _ | refine blk_drew ?_ | refine blk_alloc ?_ _)); exact BK198.out) hb); have n2_ := Aside0.mk (below_step (by repeat (first | (with_reducible first | exact HB.out | apply below_alloc | apply pw_below_drewN | apply below_drew1 | refine below_set ?_ GE197.out | refine below_set ?_ GE198.out) | exact HB.out)) hb); clear BK197; clear BK198; clear HB; have BK197 := n0_; have BK198 := n1_; have HB := n2_; clear n0_ n1_ n2_; (try clear hb); (try clear hb2); (try clear hk); (try clear hi); have hcz27_0 : w26.cell? ⟨gb198, 0, none⟩ = some (.int .i64 x199000_3) := (blk_cell BK198.out 0).trans rfl; have hcz27_1 : w26.cell? ⟨gb198, 1, none⟩ = some (.string a2_1) := (blk_cell BK198.out 1).trans rfl; have hfz27_0 := blk_frozen BK198.out 0; have hfz27_1 := blk_frozen BK198.out 1) | (go_at_call 45; (with_reducible refine (arrays_isInt.calls x199000_3 a2_1 t200 _ A23.out).mono ?_); rintro e w28 ⟨rfl, hb⟩; have n0_ := Aside0.mk (blk_below (g := gb197) (o := .cells #[.int .i64 x198000_3, .string a1_1] 28 (0, 0)) (by (with_reducible repeat (first | refine blk_drewN ?_ _ | refine blk_drew ?_ | refine blk_alloc ?_ _)); exact BK197.out) hb); have n1_ := Aside0.mk (blk_below (g := gb198) (o := .cells #[.int .i64 x199000_3, .string a2_1] 28 (0, 0)) (by (with_reducible repeat (first | refine blk_drewN ?_ _ | refine blk_drew ?_ | refine blk_alloc ?_ _)); exact BK198.out) hb); have n2_ := Aside0.mk (below_step (by repeat (first | (with_reducible first | exact HB.out | apply below_alloc | apply pw_below_drewN | apply below_drew1 | refine below_set ?_ GE197.out | refine below_set ?_ GE198.out) | exact HB.out)) hb); clear BK197; clear BK198; clear HB; have BK197 := n0_; have BK198 := n1_; have HB := n2_; clear n0_ n1_ n2_; (try clear hb); (try clear hb2); (try clear hk); (try clear hi)))
          go_meet
          case rel => exact ⟨_, (t200), (by first | rfl | (simp; done) | (simp [*]; done)), H', ⟨by have := HJ3.out; first | omega | exact Nat.le_refl _⟩, ⟨by (with_reducible repeat (first | refine blk_drewN ?_ _ | refine blk_drew ?_ | refine blk_alloc ?_ _)); exact BK197.out⟩, ⟨by (with_reducible repeat (first | refine blk_drewN ?_ _ | refine blk_drew ?_ | refine blk_alloc ?_ _)); exact BK198.out⟩, ⟨by repeat (first | (with_reducible first | exact HB.out | apply below_alloc | apply pw_below_drewN | apply below_drew1 | refine below_set ?_ GE197.out | refine below_set ?_ GE198.out) | exact HB.out)⟩⟩
      case rest =>
        clear HC17
        try clear c1
        try clear c2
        try clear p2
        try clear c3
        try clear c4
        try clear p6
        try clear c7
        try clear c7b0
        try clear c8
        try clear c8b0
        try clear c9
        try clear c12
        try clear c15
        try clear c19
        try clear c20
        try clear c24
        try clear hcz10_0
        try clear hcz10_1
        try clear hcz11_0
        try clear hcz11_1
        try clear hcz13_0
        try clear hcz13_1
        try clear hcz14_0
        try clear hcz14_1
        try clear hcz16_0
        try clear hcz16_1
        try clear hcz21_0
        try clear hcz21_1
        try clear hcz25_0
        try clear hcz25_1
        try clear hcz27_0
        try clear hcz27_1
        try clear hfz10_0
        try clear hfz10_1
        try clear hfz11_0
        try clear hfz11_1
        try clear hfz13_0
        try clear hfz13_1
        try clear hfz14_0
        try clear hfz14_1
        try clear hfz16_0
        try clear hfz16_1
        try clear hfz21_0
        try clear hfz21_1
        try clear hfz25_0
        try clear hfz25_1
        try clear hfz27_0
        try clear hfz27_1
        try clear p2
        try clear p6
        obtain ⟨kq, x27_16, rfl, HA, HJ16, BK197, BK198, HB⟩ := hcut
        cases kq with
        | zero => exact absurd HA.out (by simp [arrays_below.j2])
        | succ kj16 =>
          have H := HA.out
          clear HA
          simp only [arrays_below.j2] at H
          by_cases c29 : x27_16 = true
          · subst c29
            have H1 : (some (x198000_3 == x199000_3 && (a1_1.toList == a2_1.toList))) = some r := by rw [if_pos rfl] at H; exact H
            clear H
            have H := H1
            clear H1
            obtain rfl := Option.some.inj H
            have hnb30 := NB197_198.out
            have hnc30 := NB198_197.out
            have hcz31_0 : wc.cell? ⟨gb197, 0, none⟩ = some (.int .i64 x198000_3) := (blk_cell BK197.out 0).trans rfl
            have hcz31_1 : wc.cell? ⟨gb197, 1, none⟩ = some (.string a1_1) := (blk_cell BK197.out 1).trans rfl
            have hfz31_0 := blk_frozen BK197.out 0
            have hfz31_1 := blk_frozen BK197.out 1
            have hcz32_0 : wc.cell? ⟨gb198, 0, none⟩ = some (.int .i64 x199000_3) := (blk_cell BK198.out 0).trans rfl
            have hcz32_1 : wc.cell? ⟨gb198, 1, none⟩ = some (.string a2_1) := (blk_cell BK198.out 1).trans rfl
            have hfz32_0 := blk_frozen BK198.out 0
            have hfz32_1 := blk_frozen BK198.out 1
            go_wp2
            go_ret
            exact ⟨by first | rfl | (simp [errW_none, errW_some] <;> rfl) | (simp [*, errW_none, errW_some] <;> rfl), by repeat (first | (with_reducible first | exact HB.out | apply below_alloc | apply pw_below_drewN | apply below_drew1 | refine below_set ?_ GE197.out | refine below_set ?_ GE198.out) | exact HB.out)⟩
          · replace c29 := Bool.eq_false_iff.mpr c29
            subst c29
            have H1 : (if x198000_3 > 0 then ((arrays_top.f a2_1).bind fun t201 => (some t201)) else (if x199000_3 > 0 then (some false) else ((hier_World_ByName.f a0 a1_1).bind fun bt202 => ((hier_World_ByName.f a0 a2_1).bind fun bt204 => ((hier_World_Extends.f a0 bt202.1 bt204.1).bind fun t206 => (some t206)))))) = some r := by rw [if_neg (show ¬ (false = true) by decide)] at H; exact H
            clear H
            have H := H1
            clear H1
            by_cases c33 : x198000_3 > 0
            · rw [if_pos c33] at H
              have c33b0 : decide (0 < x198000_3) = true := decide_eq_true c33
              clear c33
              replace H := Option.bind_eq_some_iff.mp H
              obtain ⟨t201, A340, H⟩ := H
              replace H : (some t201) = some r := H
              have A34 := Aside0.mk A340
              clear A340
              obtain rfl := Option.some.inj H
              have hnb35 := NB197_198.out
              have hnc35 := NB198_197.out
              have hcz36_0 : wc.cell? ⟨gb197, 0, none⟩ = some (.int .i64 x198000_3) := (blk_cell BK197.out 0).trans rfl
              have hcz36_1 : wc.cell? ⟨gb197, 1, none⟩ = some (.string a1_1) := (blk_cell BK197.out 1).trans rfl
              have hfz36_0 := blk_frozen BK197.out 0
              have hfz36_1 := blk_frozen BK197.out 1
              have hcz37_0 : wc.cell? ⟨gb198, 0, none⟩ = some (.int .i64 x199000_3) := (blk_cell BK198.out 0).trans rfl
              have hcz37_1 : wc.cell? ⟨gb198, 1, none⟩ = some (.string a2_1) := (blk_cell BK198.out 1).trans rfl
              have hfz37_0 := blk_frozen BK198.out 0
              have hfz37_1 := blk_frozen BK198.out 1
              go_wp2_with (first | ((with_reducible refine gate_callee (f := 46) rfl ?_); refine goesL_ (some 43) rfl rfl Tryd.func46 (by kernel_rfl) rfl #[.string a2_1] rfl (by (try simp only [List.map_toArray, List.map_cons, List.map_nil]); first | done | rfl | (simp only [List.length_drop, List.length_take]; rfl)) ?_; (with_reducible refine (arrays_top.calls a2_1 t201 _ A34.out).mono ?_); rintro e w' ⟨rfl, ⟨nd, rfl⟩⟩; refine ⟨_, rfl, ?_⟩))
              go_ret
              exact ⟨by first | rfl | (simp [errW_none, errW_some] <;> rfl) | (simp [*, errW_none, errW_some] <;> rfl), by repeat (first | (with_reducible first | exact HB.out | apply below_alloc | apply pw_below_drewN | apply below_drew1 | refine below_set ?_ GE197.out | refine below_set ?_ GE198.out) | exact HB.out)⟩
            · rw [if_neg c33] at H
              have c33b0 : decide (0 < x198000_3) = false := decide_eq_false c33
              clear c33
              by_cases c38 : x199000_3 > 0
              · rw [if_pos c38] at H
                have c38b0 : decide (0 < x199000_3) = true := decide_eq_true c38
                clear c38
                obtain rfl := Option.some.inj H
                have hnb39 := NB197_198.out
                have hnc39 := NB198_197.out
                have hcz40_0 : wc.cell? ⟨gb197, 0, none⟩ = some (.int .i64 x198000_3) := (blk_cell BK197.out 0).trans rfl
                have hcz40_1 : wc.cell? ⟨gb197, 1, none⟩ = some (.string a1_1) := (blk_cell BK197.out 1).trans rfl
                have hfz40_0 := blk_frozen BK197.out 0
                have hfz40_1 := blk_frozen BK197.out 1
                have hcz41_0 : wc.cell? ⟨gb198, 0, none⟩ = some (.int .i64 x199000_3) := (blk_cell BK198.out 0).trans rfl
                have hcz41_1 : wc.cell? ⟨gb198, 1, none⟩ = some (.string a2_1) := (blk_cell BK198.out 1).trans rfl
                have hfz41_0 := blk_frozen BK198.out 0
                have hfz41_1 := blk_frozen BK198.out 1
                go_wp2
                go_ret
                exact ⟨by first | rfl | (simp [errW_none, errW_some] <;> rfl) | (simp [*, errW_none, errW_some] <;> rfl), by repeat (first | (with_reducible first | exact HB.out | apply below_alloc | apply pw_below_drewN | apply below_drew1 | refine below_set ?_ GE197.out | refine below_set ?_ GE198.out) | exact HB.out)⟩
              · rw [if_neg c38] at H
                have c38b0 : decide (0 < x199000_3) = false := decide_eq_false c38
                clear c38
                replace H := Option.bind_eq_some_iff.mp H
                obtain ⟨⟨t202, t203⟩, A420, H⟩ := H
                replace H : ((hier_World_ByName.f a0 a2_1).bind fun bt204 => ((hier_World_Extends.f a0 t202 bt204.1).bind fun t206 => (some t206))) = some r := H
                have A42 := Aside0.mk A420
                clear A420
                replace H := Option.bind_eq_some_iff.mp H
                obtain ⟨⟨t204, t205⟩, A430, H⟩ := H
                replace H : ((hier_World_Extends.f a0 t202 t204).bind fun t206 => (some t206)) = some r := H
                have A43 := Aside0.mk A430
                clear A430
                replace H := Option.bind_eq_some_iff.mp H
                obtain ⟨t206, A440, H⟩ := H
                replace H : (some t206) = some r := H
                have A44 := Aside0.mk A440
                clear A440
                obtain rfl := Option.some.inj H
                have hnb45 := NB197_198.out
                have hnc45 := NB198_197.out
                have hcz46_0 : wc.cell? ⟨gb197, 0, none⟩ = some (.int .i64 x198000_3) := (blk_cell BK197.out 0).trans rfl
                have hcz46_1 : wc.cell? ⟨gb197, 1, none⟩ = some (.string a1_1) := (blk_cell BK197.out 1).trans rfl
                have hfz46_0 := blk_frozen BK197.out 0
                have hfz46_1 := blk_frozen BK197.out 1
                have hcz47_0 : wc.cell? ⟨gb198, 0, none⟩ = some (.int .i64 x199000_3) := (blk_cell BK198.out 0).trans rfl
                have hcz47_1 : wc.cell? ⟨gb198, 1, none⟩ = some (.string a2_1) := (blk_cell BK198.out 1).trans rfl
                have hfz47_0 := blk_frozen BK198.out 0
                have hfz47_1 := blk_frozen BK198.out 1
                go_wp2_with (first | ((with_reducible refine gate_callee (f := 25) rfl ?_); refine goesL_ (some 52) rfl rfl Tryd.func25 (by kernel_rfl) rfl #[.pointer (some ⟨G_, 0, none⟩), .string a1_1] rfl (by (try simp only [List.map_toArray, List.map_cons, List.map_nil]); first | done | rfl | (simp only [List.length_drop, List.length_take]; rfl)) ?_; (with_reducible refine (hier_World_ByName.calls G_ a0 a1_1 t202 t203 _ ?side1 A42.out).mono ?_); (case side1 => repeat (first | (with_reducible exact HQa0.out) | (with_reducible refine WOK.alloc ?_ _) | (with_reducible refine WOK.drewN ?_ _) | (with_reducible refine WOK.drew ?_) | exact WOK.below HQa0.out HB.out | exact WOK.below HQa0.out (by repeat (first | (with_reducible first | exact HB.out | apply below_alloc | apply pw_below_drewN | apply below_drew1 | refine below_set ?_ GE197.out | refine below_set ?_ GE198.out) | exact HB.out)))); rintro e w48 ⟨rfl, hb⟩; refine ⟨_, rfl, ?_⟩; have n0_ := Aside0.mk (blk_below (g := gb197) (o := .cells #[.int .i64 x198000_3, .string a1_1] 28 (0, 0)) (by (with_reducible repeat (first | refine blk_drewN ?_ _ | refine blk_drew ?_ | refine blk_alloc ?_ _)); exact BK197.out) hb); have n1_ := Aside0.mk (blk_below (g := gb198) (o := .cells #[.int .i64 x199000_3, .string a2_1] 28 (0, 0)) (by (with_reducible repeat (first | refine blk_drewN ?_ _ | refine blk_drew ?_ | refine blk_alloc ?_ _)); exact BK198.out) hb); have n2_ := Aside0.mk (below_step (by repeat (first | (with_reducible first | exact HB.out | apply below_alloc | apply pw_below_drewN | apply below_drew1 | refine below_set ?_ GE197.out | refine below_set ?_ GE198.out) | exact HB.out)) hb); clear BK197; clear BK198; clear HB; have BK197 := n0_; have BK198 := n1_; have HB := n2_; clear n0_ n1_ n2_; (try clear hb); (try clear hb2); (try clear hk); (try clear hi); have hcz49_0 : w48.cell? ⟨gb198, 0, none⟩ = some (.int .i64 x199000_3) := (blk_cell BK198.out 0).trans rfl; have hcz49_1 : w48.cell? ⟨gb198, 1, none⟩ = some (.string a2_1) := (blk_cell BK198.out 1).trans rfl; have hfz49_0 := blk_frozen BK198.out 0; have hfz49_1 := blk_frozen BK198.out 1) | ((with_reducible refine gate_callee (f := 25) rfl ?_); refine goesL_ (some 59) rfl rfl Tryd.func25 (by kernel_rfl) rfl #[.pointer (some ⟨G_, 0, none⟩), .string a2_1] rfl (by (try simp only [List.map_toArray, List.map_cons, List.map_nil]); first | done | rfl | (simp only [List.length_drop, List.length_take]; rfl)) ?_; (with_reducible refine (hier_World_ByName.calls G_ a0 a2_1 t204 t205 _ ?side1 A43.out).mono ?_); (case side1 => repeat (first | (with_reducible exact HQa0.out) | (with_reducible refine WOK.alloc ?_ _) | (with_reducible refine WOK.drewN ?_ _) | (with_reducible refine WOK.drew ?_) | exact WOK.below HQa0.out HB.out | exact WOK.below HQa0.out (by repeat (first | (with_reducible first | exact HB.out | apply below_alloc | apply pw_below_drewN | apply below_drew1 | refine below_set ?_ GE197.out | refine below_set ?_ GE198.out) | exact HB.out)))); rintro e w50 ⟨rfl, hb⟩; refine ⟨_, rfl, ?_⟩; have n0_ := Aside0.mk (blk_below (g := gb197) (o := .cells #[.int .i64 x198000_3, .string a1_1] 28 (0, 0)) (by (with_reducible repeat (first | refine blk_drewN ?_ _ | refine blk_drew ?_ | refine blk_alloc ?_ _)); exact BK197.out) hb); have n1_ := Aside0.mk (blk_below (g := gb198) (o := .cells #[.int .i64 x199000_3, .string a2_1] 28 (0, 0)) (by (with_reducible repeat (first | refine blk_drewN ?_ _ | refine blk_drew ?_ | refine blk_alloc ?_ _)); exact BK198.out) hb); have n2_ := Aside0.mk (below_step (by repeat (first | (with_reducible first | exact HB.out | apply below_alloc | apply pw_below_drewN | apply below_drew1 | refine below_set ?_ GE197.out | refine below_set ?_ GE198.out) | exact HB.out)) hb); clear BK197; clear BK198; clear HB; have BK197 := n0_; have BK198 := n1_; have HB := n2_; clear n0_ n1_ n2_; (try clear hb); (try clear hb2); (try clear hk); (try clear hi)) | ((with_reducible refine gate_callee (f := 28) rfl ?_); refine goesL_ (some 65) rfl rfl Tryd.func28 (by kernel_rfl) rfl #[.pointer (some ⟨G_, 0, none⟩), .int .i64 t202, .int .i64 t204] rfl (by (try simp only [List.map_toArray, List.map_cons, List.map_nil]); first | done | rfl | (simp only [List.length_drop, List.length_take]; rfl)) ?_; (with_reducible refine (hier_World_Extends.calls G_ a0 t202 t204 t206 _ ?side1 A44.out).mono ?_); (case side1 => repeat (first | (with_reducible exact HQa0.out) | (with_reducible refine WOK.alloc ?_ _) | (with_reducible refine WOK.drewN ?_ _) | (with_reducible refine WOK.drew ?_) | exact WOK.below HQa0.out HB.out | exact WOK.below HQa0.out (by repeat (first | (with_reducible first | exact HB.out | apply below_alloc | apply pw_below_drewN | apply below_drew1 | refine below_set ?_ GE197.out | refine below_set ?_ GE198.out) | exact HB.out)))); rintro e w51 ⟨rfl, hb⟩; refine ⟨_, rfl, ?_⟩; have n0_ := Aside0.mk (blk_below (g := gb197) (o := .cells #[.int .i64 x198000_3, .string a1_1] 28 (0, 0)) (by (with_reducible repeat (first | refine blk_drewN ?_ _ | refine blk_drew ?_ | refine blk_alloc ?_ _)); exact BK197.out) hb); have n1_ := Aside0.mk (blk_below (g := gb198) (o := .cells #[.int .i64 x199000_3, .string a2_1] 28 (0, 0)) (by (with_reducible repeat (first | refine blk_drewN ?_ _ | refine blk_drew ?_ | refine blk_alloc ?_ _)); exact BK198.out) hb); have n2_ := Aside0.mk (below_step (by repeat (first | (with_reducible first | exact HB.out | apply below_alloc | apply pw_below_drewN | apply below_drew1 | refine below_set ?_ GE197.out | refine below_set ?_ GE198.out) | exact HB.out)) hb); clear BK197; clear BK198; clear HB; have BK197 := n0_; have BK198 := n1_; have HB := n2_; clear n0_ n1_ n2_; (try clear hb); (try clear hb2); (try clear hk); (try clear hi)))
                go_ret
                exact ⟨by first | rfl | (simp [errW_none, errW_some] <;> rfl) | (simp [*, errW_none, errW_some] <;> rfl), by repeat (first | (with_reducible first | exact HB.out | apply below_alloc | apply pw_below_drewN | apply below_drew1 | refine below_set ?_ GE197.out | refine below_set ?_ GE198.out) | exact HB.out)⟩

end Go.Proofs.YtmlifggklaeieaaDoor.Pt

/- hier.World.above: a class that stands above, found by its name. -/
namespace Go.Proofs.YtmlifggklaeieaaDoor.Hi
open Go Go.RowKit Go.Proofs.YtmlifggklaeieaaDoor.Nm Go.Proofs.YtmlifggklaeieaaDoorW.PrintWords Go.Proofs.YtmlifggklaeieaaDoorW.PrintLast Go.Proofs.YtmlifggklaeieaaDoorW.PrintMore Go.Proofs.YtmlifggklaeieaaDoor.Pt
set_option linter.unusedVariables false
set_option linter.unusedSimpArgs false
set_option maxHeartbeats 4000000
set_option maxRecDepth 100000

/-- What is said of a class p of number id that is to stand above c. -/
def fitF (id : Int) (p c : S44) (want : Bool) : Int × Int :=
  if isI p != want then (0, 23) else if !want && isI c && id != 0 then (0, 23) else if Go.bits .and .i64 p.f3 1 == 0 && !(tog c p) then (0, 22) else (id, 0)
def aboveF (es : List Ent) (c : S44) (name : ByteArray) (want : Bool) : Int × Int :=
  if (nameF es name).2 = 0 then fitF (nameF es name).1 (ent es (nameF es name).1).c c want else (0, 20)
theorem above_any (w : World) (base g : Nat) (v : Value) (mb : Nat) (ps : List Nat) (es : List Ent) (h : WIn w base g v mb ps es) (hf : ∀ x ∈ es, Fine x) (c : S44) (v1 v2 v5 : Value) (name : ByteArray) (want : Bool) (hc : c.f0.size < 4611686018427387904) (hs : name.size ≤ 9223372036854775807) (hlen : es.length ≤ 1000) :
    Calls Tryd.prog 43 #[.pointer (some ⟨g, 0, none⟩), .agg #[.string c.f0, v1, v2, .int .i64 c.f3, .int .i64 c.f4, v5], .string name, .bool want] w fun e w' => e = .returned (.tuple #[.int .i64 (aboveF es c name want).1, .int .i64 (aboveF es c name want).2]) ∧ Below w.heap.size w w' := by
  generalize hV : aboveF es c name want = V
  replace hV := Lib.hid hV
  obtain ⟨D, hD, hS⟩ := h.map
  have q1 : w.cell? ⟨g, 1, none⟩ = some (.map (some mb)) := (blk_cell h.blk 1).trans rfl
  have hgl := blk_lt h.blk
  have HW := Lib.hid h
  replace hS := Lib.hid hS
  have hD1 := Lib.hid (hD.alloc (.cells #[.string c.f0, v1, v2, .int .i64 c.f3, .int .i64 c.f4, v5] 44))
  clear h hD
  cases hh : Maps.has D (.string name.data.toList)
  · have LN := Lib.hid (fun c hc => (look_name hS.out name c hc).2 hh)
    go_enter Tryd.func43, Tryd.ntmps43
    go_wp2_with (at_lookup; refine wpList_lookup_own_ok_int _ rfl _ _ 85 rfl 9 3 .i64 (Maps.string_keyed Tryd.underlying9) Tryd.underlying85 Tryd.underlying3 (zeroInt _) mb es.length D rfl hD1.out _ _ rfl (Go.WideMaps.keyOf_string_mk Tryd.underlying9 hs) ?_; intro i hat hwc; replace hat := Lib.hid hat; clear hwc)
    go_ret2
    have e1 := LN.out i hat.out
    exact ⟨by rw [← hV.out, aboveF, e1]; rfl, (Below.refl _ _).alloc (Nat.le_refl _) _⟩
  · have LN := Lib.hid (fun c hc => (look_name hS.out name c hc).1 hh)
    have B5 := Lib.hid (blk_new w (.cells #[.string c.f0, v1, v2, .int .i64 c.f3, .int .i64 c.f4, v5] 44))
    have HB : Hid (Below w.heap.size w (w.alloc (.cells #[.string c.f0, v1, v2, .int .i64 c.f3, .int .i64 c.f4, v5] 44))) := Lib.hid ((Below.refl _ _).alloc (Nat.le_refl _) _)
    obtain ⟨Av, cv, rfl⟩ := Kd.R_slice HW.out.row
    have qg0 : w.cell? ⟨g, 0, none⟩ = some (.slice Av ps.length cv) := (blk_cell HW.out.blk 0).trans rfl
    go_enter Tryd.func43, Tryd.ntmps43
    go_upto_region 2 with (at_lookup; refine wpList_lookup_own_ok_int _ rfl _ _ 85 rfl 9 3 .i64 (Maps.string_keyed Tryd.underlying9) Tryd.underlying85 Tryd.underlying3 (zeroInt _) mb es.length D rfl hD1.out _ _ rfl (Go.WideMaps.keyOf_string_mk Tryd.underlying9 hs) ?_; intro id hat hwc; replace hat := Lib.hid hat; clear hwc)
    obtain ⟨n1, n2, n3, n4, n5⟩ := LN.out id hat.out
    clear n5
    have hVV : Hid (fitF id (ent es id).c c want = V) := Lib.hid (by rw [← hV.out, aboveF, n1, n2]; rfl)
    obtain ⟨hnl, ad, p, A2', c2', A5', c5', A8', c8', rfl, hrow, hent, _, _, _⟩ := WIn_all_at HW.out n3 n4
    have sx : Hid ((ent es id).c.f0.size < 4611686018427387904) := Lib.hid (hf _ (List.mem_of_getElem? (get_ent n3 n4))).2.1
    clear LN hV hat n1 n2 hD1 hS hf q1
    generalize ent es id = x at *
    have p0 : w.cell? ⟨p, 0, none⟩ = some (.string x.c.f0) := (blk_cell hent 0).trans rfl
    have p1 : w.cell? ⟨p, 1, none⟩ = some (.string x.c.f1) := (blk_cell hent 1).trans rfl
    have p2 : w.cell? ⟨p, 2, none⟩ = some (.slice A2' x.c.f2.length c2') := (blk_cell hent 2).trans rfl
    have p3 : w.cell? ⟨p, 3, none⟩ = some (.int .i64 x.c.f3) := (blk_cell hent 3).trans rfl
    have p4 : w.cell? ⟨p, 4, none⟩ = some (.int .i64 x.c.f4) := (blk_cell hent 4).trans rfl
    have p5 : w.cell? ⟨p, 5, none⟩ = some (.slice A5' x.c.f5.length c5') := (blk_cell hent 5).trans rfl
    replace hrow := pw_cell_below HB.out hrow
    replace p0 := pw_cell_below HB.out p0
    replace p1 := pw_cell_below HB.out p1
    replace p2 := pw_cell_below HB.out p2
    replace p3 := pw_cell_below HB.out p3
    replace p4 := pw_cell_below HB.out p4
    replace p5 := pw_cell_below HB.out p5
    replace qg0 := pw_cell_below HB.out qg0
    have hlt : id < (ps.length : Int) := by omega
    have hws : Hid (w.heap.size < (w.alloc (.cells #[.string c.f0, v1, v2, .int .i64 c.f3, .int .i64 c.f4, v5] 44)).heap.size) := Lib.hid (by simp)
    clear hent HW hnl
    generalize w.alloc (.cells #[.string c.f0, v1, v2, .int .i64 c.f3, .int .i64 c.f4, v5] 44) = W at *
    have B12 := Lib.hid (blk_new W (.cells #[.string x.c.f0, .string x.c.f1, .slice A2' x.c.f2.length c2', .int .i64 x.c.f3, .int .i64 x.c.f4, .slice A5' x.c.f5.length c5'] 44))
    have HB2 : Hid (Below w.heap.size w (W.alloc (.cells #[.string x.c.f0, .string x.c.f1, .slice A2' x.c.f2.length c2', .int .i64 x.c.f3, .int .i64 x.c.f4, .slice A5' x.c.f5.length c5'] 44))) := Lib.hid (below_alloc HB.out _)
    have B5b := Lib.hid (blk_alloc B5.out (.cells #[.string x.c.f0, .string x.c.f1, .slice A2' x.c.f2.length c2', .int .i64 x.c.f3, .int .i64 x.c.f4, .slice A5' x.c.f5.length c5'] 44))
    clear B5
    go_wp2_with fail
    clear p0 p1 p2 p3 p4 p5 qg0 hrow
    generalize W.alloc (.cells #[.string x.c.f0, .string x.c.f1, .slice A2' x.c.f2.length c2', .int .i64 x.c.f3, .int .i64 x.c.f4, .slice A5' x.c.f5.length c5'] 44) = U at *
    refine (iface_any U (.string x.c.f0) (.string x.c.f1) (.slice A2' x.c.f2.length c2') (.int .i64 x.c.f4) (.slice A5' x.c.f5.length c5') x.c.f3).mono ?_
    rintro e U1 ⟨rfl, hb1⟩
    have B5c := blk_below B5b.out hb1
    have B12c := blk_below B12.out hb1
    have HB3 := Lib.hid (HB2.out.trans (hb1.mono HB2.out.size))
    have y0 : U1.cell? ⟨w.heap.size, 0, none⟩ = some (.string c.f0) := (blk_cell B5c 0).trans rfl
    have y1 : U1.cell? ⟨w.heap.size, 1, none⟩ = some v1 := (blk_cell B5c 1).trans rfl
    have y2 : U1.cell? ⟨w.heap.size, 2, none⟩ = some v2 := (blk_cell B5c 2).trans rfl
    have y3 : U1.cell? ⟨w.heap.size, 3, none⟩ = some (.int .i64 c.f3) := (blk_cell B5c 3).trans rfl
    have y4 : U1.cell? ⟨w.heap.size, 4, none⟩ = some (.int .i64 c.f4) := (blk_cell B5c 4).trans rfl
    have y5 : U1.cell? ⟨w.heap.size, 5, none⟩ = some v5 := (blk_cell B5c 5).trans rfl
    have z0 : U1.cell? ⟨W.heap.size, 0, none⟩ = some (.string x.c.f0) := (blk_cell B12c 0).trans rfl
    have z1 : U1.cell? ⟨W.heap.size, 1, none⟩ = some (.string x.c.f1) := (blk_cell B12c 1).trans rfl
    have z2 : U1.cell? ⟨W.heap.size, 2, none⟩ = some (.slice A2' x.c.f2.length c2') := (blk_cell B12c 2).trans rfl
    have z3 : U1.cell? ⟨W.heap.size, 3, none⟩ = some (.int .i64 x.c.f3) := (blk_cell B12c 3).trans rfl
    have z4 : U1.cell? ⟨W.heap.size, 4, none⟩ = some (.int .i64 x.c.f4) := (blk_cell B12c 4).trans rfl
    have z5 : U1.cell? ⟨W.heap.size, 5, none⟩ = some (.slice A5' x.c.f5.length c5') := (blk_cell B12c 5).trans rfl
    have IC := Lib.hid (iface_any U1 (.string c.f0) v1 v2 (.int .i64 c.f4) v5 c.f3)
    have TG := Lib.hid (fun W => together_any W c x.c v1 v2 v5 (.string x.c.f1) (.slice A2' x.c.f2.length c2') (.slice A5' x.c.f5.length c5') (.int .i64 c.f3) (.int .i64 x.c.f3) hc sx.out)
    replace B5c := Lib.hid B5c
    replace B12c := Lib.hid B12c
    clear B5b B12 HB HB2 hb1 hws hlt n3 n4
    have hI : Hid (isI x.c = (Go.bits .and .i64 x.c.f3 512 != 0)) := Lib.hid rfl
    have hJ : Hid (isI c = (Go.bits .and .i64 c.f3 512 != 0)) := Lib.hid rfl
    generalize (Go.bits .and .i64 x.c.f3 512 != 0) = ip at *
    generalize (Go.bits .and .i64 c.f3 512 != 0) = ic at *
    cases ip with
    | true =>
      cases want with
      | false =>
        go_wp2
        go_ret2
        exact ⟨by rw [← hVV.out, fitF, hI.out]; rfl, HB3.out⟩
      | true =>
        by_cases hp : Go.bits .and .i64 x.c.f3 1 = 0
        · have hp1 : (Go.bits .and .i64 x.c.f3 1 == 0) = true := beq_iff_eq.2 hp
          clear hp
          cases ht : tog c x.c
          · have ht2 := Lib.hid ht
            replace TG := Lib.hid (fun W => by have := TG.out W; rw [ht] at this; exact this)
            clear ht
            go_wp2_with (first | (go_at_call 34; refine (TG.out _).mono ?_; rintro e U9 ⟨rfl, hb2⟩; replace hb2 := Lib.hid hb2))
            go_ret2
            exact ⟨by rw [← hVV.out, fitF, hI.out, hJ.out, ht2.out, hp1]; rfl, HB3.out.trans (hb2.out.mono HB3.out.size)⟩
          · have ht2 := Lib.hid ht
            replace TG := Lib.hid (fun W => by have := TG.out W; rw [ht] at this; exact this)
            clear ht
            go_wp2_with (first | (go_at_call 34; refine (TG.out _).mono ?_; rintro e U9 ⟨rfl, hb2⟩; replace hb2 := Lib.hid hb2))
            go_ret2
            exact ⟨by rw [← hVV.out, fitF, hI.out, hJ.out, ht2.out, hp1]; rfl, HB3.out.trans (hb2.out.mono HB3.out.size)⟩
        · have hp1 : (Go.bits .and .i64 x.c.f3 1 == 0) = false := beq_eq_false_iff_ne.2 hp
          clear hp
          go_wp2_with fail
          go_ret2
          exact ⟨by rw [← hVV.out, fitF, hI.out, hJ.out, hp1]; rfl, HB3.out⟩
    | false =>
      cases want with
      | true =>
        go_wp2
        go_ret2
        exact ⟨by rw [← hVV.out, fitF, hI.out]; rfl, HB3.out⟩
      | false =>
        go_wp2_with fail
        refine IC.out.mono ?_
        rintro e U2 ⟨rfl, hbc⟩
        have B5d := blk_below B5c.out hbc
        have B12d := blk_below B12c.out hbc
        have HB4 := Lib.hid (HB3.out.trans (hbc.mono HB3.out.size))
        clear y0 y1 y2 y3 y4 y5 z0 z1 z2 z3 z4 z5 hbc IC HB3 B5c B12c
        have y0 : U2.cell? ⟨w.heap.size, 0, none⟩ = some (.string c.f0) := (blk_cell B5d 0).trans rfl
        have y1 : U2.cell? ⟨w.heap.size, 1, none⟩ = some (v1) := (blk_cell B5d 1).trans rfl
        have y2 : U2.cell? ⟨w.heap.size, 2, none⟩ = some (v2) := (blk_cell B5d 2).trans rfl
        have y3 : U2.cell? ⟨w.heap.size, 3, none⟩ = some (.int .i64 c.f3) := (blk_cell B5d 3).trans rfl
        have y4 : U2.cell? ⟨w.heap.size, 4, none⟩ = some (.int .i64 c.f4) := (blk_cell B5d 4).trans rfl
        have y5 : U2.cell? ⟨w.heap.size, 5, none⟩ = some (v5) := (blk_cell B5d 5).trans rfl
        have z0 : U2.cell? ⟨W.heap.size, 0, none⟩ = some (.string x.c.f0) := (blk_cell B12d 0).trans rfl
        have z1 : U2.cell? ⟨W.heap.size, 1, none⟩ = some (.string x.c.f1) := (blk_cell B12d 1).trans rfl
        have z2 : U2.cell? ⟨W.heap.size, 2, none⟩ = some (.slice A2' x.c.f2.length c2') := (blk_cell B12d 2).trans rfl
        have z3 : U2.cell? ⟨W.heap.size, 3, none⟩ = some (.int .i64 x.c.f3) := (blk_cell B12d 3).trans rfl
        have z4 : U2.cell? ⟨W.heap.size, 4, none⟩ = some (.int .i64 x.c.f4) := (blk_cell B12d 4).trans rfl
        have z5 : U2.cell? ⟨W.heap.size, 5, none⟩ = some (.slice A5' x.c.f5.length c5') := (blk_cell B12d 5).trans rfl
        clear B5d B12d
        cases ic with
        | true =>
          by_cases hi : id = 0
          · have hi1 : (id != 0) = false := bne_eq_false_iff_eq.2 hi
            clear hi
            by_cases hp : Go.bits .and .i64 x.c.f3 1 = 0
            · have hp1 : (Go.bits .and .i64 x.c.f3 1 == 0) = true := beq_iff_eq.2 hp
              clear hp
              cases ht : tog c x.c
              · have ht2 := Lib.hid ht
                replace TG := Lib.hid (fun W => by have := TG.out W; rw [ht] at this; exact this)
                clear ht
                go_wp2_with (first | (go_at_call 34; refine (TG.out _).mono ?_; rintro e U9 ⟨rfl, hb2⟩; replace hb2 := Lib.hid hb2))
                go_ret2
                exact ⟨by rw [← hVV.out, fitF, hI.out, hJ.out, ht2.out, hp1, hi1]; rfl, HB4.out.trans (hb2.out.mono HB4.out.size)⟩
              · have ht2 := Lib.hid ht
                replace TG := Lib.hid (fun W => by have := TG.out W; rw [ht] at this; exact this)
                clear ht
                go_wp2_with (first | (go_at_call 34; refine (TG.out _).mono ?_; rintro e U9 ⟨rfl, hb2⟩; replace hb2 := Lib.hid hb2))
                go_ret2
                exact ⟨by rw [← hVV.out, fitF, hI.out, hJ.out, ht2.out, hp1, hi1]; rfl, HB4.out.trans (hb2.out.mono HB4.out.size)⟩
            · have hp1 : (Go.bits .and .i64 x.c.f3 1 == 0) = false := beq_eq_false_iff_ne.2 hp
              clear hp
              go_wp2_with fail
              go_ret2
              exact ⟨by rw [← hVV.out, fitF, hI.out, hJ.out, hp1, hi1]; rfl, HB4.out⟩
          · have hi1 : (id != 0) = true := bne_iff_ne.2 hi
            clear hi
            go_wp2
            go_ret2
            exact ⟨by rw [← hVV.out, fitF, hI.out, hJ.out, hi1]; rfl, HB4.out⟩
        | false =>
          by_cases hp : Go.bits .and .i64 x.c.f3 1 = 0
          · have hp1 : (Go.bits .and .i64 x.c.f3 1 == 0) = true := beq_iff_eq.2 hp
            clear hp
            cases ht : tog c x.c
            · have ht2 := Lib.hid ht
              replace TG := Lib.hid (fun W => by have := TG.out W; rw [ht] at this; exact this)
              clear ht
              go_wp2_with (first | (go_at_call 34; refine (TG.out _).mono ?_; rintro e U9 ⟨rfl, hb2⟩; replace hb2 := Lib.hid hb2))
              go_ret2
              exact ⟨by rw [← hVV.out, fitF, hI.out, hJ.out, ht2.out, hp1]; rfl, HB4.out.trans (hb2.out.mono HB4.out.size)⟩
            · have ht2 := Lib.hid ht
              replace TG := Lib.hid (fun W => by have := TG.out W; rw [ht] at this; exact this)
              clear ht
              go_wp2_with (first | (go_at_call 34; refine (TG.out _).mono ?_; rintro e U9 ⟨rfl, hb2⟩; replace hb2 := Lib.hid hb2))
              go_ret2
              exact ⟨by rw [← hVV.out, fitF, hI.out, hJ.out, ht2.out, hp1]; rfl, HB4.out.trans (hb2.out.mono HB4.out.size)⟩
          · have hp1 : (Go.bits .and .i64 x.c.f3 1 == 0) = false := beq_eq_false_iff_ne.2 hp
            clear hp
            go_wp2_with fail
            go_ret2
            exact ⟨by rw [← hVV.out, fitF, hI.out, hJ.out, hp1]; rfl, HB4.out⟩
end Go.Proofs.YtmlifggklaeieaaDoor.Hi

/- flags.CheckClass, flags.CheckMethod; code.within, code.RefCheck, code.operand, walked by hand. -/
namespace Go.Proofs.YtmlifggklaeieaaDoor.Pt
open Go Go.RowKit Go.Proofs.YtmlifggklaeieaaDoor.Nm Go.Proofs.YtmlifggklaeieaaDoor.Ty Go.Proofs.YtmlifggklaeieaaDoor.Cd Go.Proofs.YtmlifggklaeieaaDoorW.PrintWords Go.Proofs.YtmlifggklaeieaaDoorW.PrintLast Go.Proofs.YtmlifggklaeieaaDoorW.PrintMore
set_option linter.unusedVariables false
set_option linter.unusedSimpArgs false
set_option maxHeartbeats 2000000
set_option maxRecDepth 100000

def clsV (f : Int) : Int :=
  if Go.bits .andNot .i64 f 1585 ≠ 0 ∨ Go.bits .and .i64 f 1040 = 1040 then 1
  else if Go.bits .and .i64 f 512 = 512 ∧ (Go.bits .and .i64 f 1024 ≠ 1024 ∨ Go.bits .and .i64 f 48 ≠ 0) then 1 else 0
def mflI (f : Int) (b i : Bool) : Int :=
  if Go.bits .andNot .i64 f 1055 ≠ 0 ∨ Go.bits .and .i64 (Go.bits .and .i64 f 7) (wrap64 (Go.bits .and .i64 f 7 - 1)) ≠ 0 then 1
  else if Go.bits .and .i64 f 1024 = 1024 ∧ Go.bits .and .i64 f 26 ≠ 0 then 1
  else if b = true ∧ (Go.bits .and .i64 (Go.bits .and .i64 f 7) 3 = 0 ∨ Go.bits .and .i64 f 16 ≠ 0 ∨ i = true) then 1
  else if i = true ∧ Go.bits .and .i64 f 1048 ≠ 0 then 1 else 0
def mflV (f : Int) (b : Bool) (s : ByteArray) : Int := mflI f b (s.toList == [60, 105, 110, 105, 116, 62])
theorem ret_eq {a b : Int} (h : a = b) : Ending.returned (.int .i64 a) = .returned (.int .i64 b) := by rw [h]
theorem all_any (a b : Int) (w : World) : Calls Tryd.prog 73 #[.int .i64 a, .int .i64 b] w fun e w' => e = .returned (.bool (Go.bits .and .i64 a b == b)) ∧ w' = w := by
  go_enter Tryd.func73, Tryd.ntmps73
  go_wp2
  go_ret
  exact ⟨rfl, rfl⟩
theorem mfl_any (f : Int) (b : Bool) (s : ByteArray) (w : World) :
    Calls Tryd.prog 65 #[.int .i64 f, .bool b, .string s] w fun e w' => e = .returned (.int .i64 (mflV f b s)) ∧ w' = w := by
  go_enter Tryd.func65, Tryd.ntmps65
  go_wp2_with (go_at_call 73; refine (all_any _ _ _).mono ?_; rintro e w' ⟨rfl, rfl⟩)
  all_goals
    go_ret
    refine ⟨ret_eq ?_, rfl⟩
    simp_all [mflV, mflI]
theorem cls_any (f : Int) (w : World) : Calls Tryd.prog 61 #[.int .i64 f] w fun e w' => e = .returned (.int .i64 (clsV f)) ∧ w' = w := by
  go_enter Tryd.func61, Tryd.ntmps61
  go_wp2_with (go_at_call 73; refine (all_any _ _ _).mono ?_; rintro e w' ⟨rfl, rfl⟩)
  all_goals
    go_ret
    refine ⟨ret_eq ?_, rfl⟩
    simp_all [clsV]
def wthB (a lo hi : Int) : Bool := decide (lo ≤ a) && decide (a ≤ hi)
theorem within_any (a lo hi : Int) (w : World) : Calls Tryd.prog 78 #[.int .i64 a, .int .i64 lo, .int .i64 hi] w fun e w' => e = .returned (.bool (wthB a lo hi)) ∧ w' = w := by
  by_cases h : lo ≤ a
  · have hd : decide (lo ≤ a) = true := decide_eq_true h
    have hw : Hid (wthB a lo hi = decide (a ≤ hi)) := Lib.hid (by unfold wthB; rw [hd, Bool.true_and])
    go_enter Tryd.func78, Tryd.ntmps78
    go_wp2
    go_ret
    exact ⟨by rw [hw.out]; rfl, rfl⟩
  · have hd : decide (lo ≤ a) = false := decide_eq_false h
    have hw : Hid (wthB a lo hi = false) := Lib.hid (by unfold wthB; rw [hd, Bool.false_and])
    go_enter Tryd.func78, Tryd.ntmps78
    go_wp2
    go_ret
    exact ⟨by rw [hw.out]; rfl, rfl⟩
def refV (rc rn rd : ByteArray) : Int := if (parseR rc.data.toList).2.2 ≠ 0 then 1 else if (parseD rd.data.toList).2 ≠ 0 then 1 else if memberB rn = true then 0 else 1
theorem cell_allocs {w : World} {p : Addr} {v : Value} (h : w.cell? p = some v) (o : Obj) : (w.alloc o).cell? p = some v := pw_cell_below ((Below.refl _ _).alloc (Nat.le_refl _) o) h
theorem refck_any (ri : Bool) (rc rn rd : ByteArray) (w : World) : Calls Tryd.prog 92 #[.agg #[.bool ri, .string rc, .string rn, .string rd]] w fun e w' => e = .returned (.int .i64 (refV rc rn rd)) ∧ Below w.heap.size w w' := by
  have B0 := Lib.hid (blk_new w (.cells #[.bool ri, .string rc, .string rn, .string rd] 81))
  have AB := Lib.hid ((Below.refl w.heap.size w).alloc (Nat.le_refl _) (.cells #[.bool ri, .string rc, .string rn, .string rd] 81))
  have C1 := Lib.hid (types_ParseRef.calls rc _ _ _ (w.alloc (.cells #[.bool ri, .string rc, .string rn, .string rd] 81)) rfl)
  have C2 := Lib.hid (fun W => types_ParseDesc.calls rd _ _ _ _ _ W rfl)
  have C3 := Lib.hid (fun W => names_Member.calls rn _ W rfl)
  have hV : Hid (refV rc rn rd = refV rc rn rd) := Lib.hid rfl
  generalize hr : refV rc rn rd = r at *
  replace hr := Lib.hid hr
  unfold refV at hr
  clear hV
  generalize parseR rc.data.toList = p1 at *
  generalize parseD rd.data.toList = p2 at *
  obtain ⟨d1, s1, e1⟩ := p1
  obtain ⟨d2, e2⟩ := p2
  go_enter Tryd.func92, Tryd.ntmps92
  go_wp2_with fail
  refine C1.out.mono ?_
  rintro e w1 ⟨rfl, hb1⟩
  have B1 := blk_below B0.out hb1
  have q3 : w1.cell? ⟨w.heap.size, 3, none⟩ = some (.string rd) := (blk_cell B1 3).trans rfl
  have q3 := cell_allocs q3
  have H1 := Lib.hid (AB.out.trans (hb1.mono AB.out.size))
  replace B1 := Lib.hid B1
  clear B0 AB C1 hb1
  go_wp2_with fail
  refine (C2.out _).mono ?_
  rintro e w2 ⟨v0, rfl, R0, hb2⟩
  obtain ⟨A0, c0, rfl⟩ := Kd.R_slice R0
  have q2 : w2.cell? ⟨w.heap.size, 2, none⟩ = some (.string rn) := pw_cell_below hb2 (cell_allocs ((blk_cell B1.out 2).trans rfl) _)
  have q2 := cell_allocs q2
  have H2 := Lib.hid ((H1.out.alloc H1.out.size _).trans (hb2.mono (H1.out.alloc H1.out.size _).size))
  clear R0 hb2 C2 H1 B1 q3
  by_cases h1 : e1 = 0
  · subst h1
    by_cases h2 : e2 = 0
    · subst h2
      go_wp2_with fail
      refine (C3.out _).mono ?_
      rintro e w3 ⟨rfl, hb3⟩
      have H3 := Lib.hid ((H2.out.alloc H2.out.size _).trans (hb3.mono (H2.out.alloc H2.out.size _).size))
      clear hb3 H2 C3 q2
      cases hm : memberB rn
      all_goals
        rw [hm] at hr
        go_wp2
        go_ret
        have := hr.out
        simp at this
        subst this
        exact ⟨rfl, H3.out⟩
    · have hne : (e2 != 0) = true := bne_iff_ne.2 h2
      go_wp2
      go_ret
      have := hr.out
      simp [h2] at this
      subst this
      exact ⟨rfl, H2.out.alloc H2.out.size _⟩
  · have hne : (e1 != 0) = true := bne_iff_ne.2 h1
    go_wp2
    go_ret
    have := hr.out
    simp [h1] at this
    subst this
    exact ⟨rfl, H2.out.alloc H2.out.size _⟩
def opB (op n : Int) (ty rc rn rd : ByteArray) : Bool :=
  if opnd op = 0 then true else if opnd op = 1 then wthB n (-2147483648) 2147483647 else if opnd op = 2 then wthB n 0 39 else if opnd op = 3 then wthB n 0 199 else if opnd op = 4 then validB ty
  else if opnd op = 5 then (parseR ty.data.toList).2.2 == 0 else if opnd op = 6 then ((parseT ty.data.toList).2.2 == 0 && decide ((parseT ty.data.toList).1 < 255))
  else if opnd op = 7 then ((parseR ty.data.toList).2.2 == 0 && wthB n 1 (parseR ty.data.toList).1) else if opnd op = 8 then refV rc rn rd == 0 else false
theorem opnd_cases (op : Int) : Cd.opnd op = -1 ∨ Cd.opnd op = 0 ∨ Cd.opnd op = 1 ∨ Cd.opnd op = 2 ∨ Cd.opnd op = 3 ∨ Cd.opnd op = 4 ∨ Cd.opnd op = 5 ∨ Cd.opnd op = 6 ∨ Cd.opnd op = 7 ∨ Cd.opnd op = 8 := by
  unfold Cd.opnd
  split
  · exact .inl rfl
  · have h : ∀ k : Nat, k < 41 → Cd.opTab.getD k 0 = 0 ∨ Cd.opTab.getD k 0 = 1 ∨ Cd.opTab.getD k 0 = 2 ∨ Cd.opTab.getD k 0 = 3 ∨ Cd.opTab.getD k 0 = 4 ∨ Cd.opTab.getD k 0 = 5 ∨ Cd.opTab.getD k 0 = 6 ∨ Cd.opTab.getD k 0 = 7 ∨ Cd.opTab.getD k 0 = 8 := by decide
    have := h op.toNat (by omega)
    omega
theorem oper_any (op n : Int) (ty : ByteArray) (ri : Bool) (rc rn rd : ByteArray) (w : World) :
    Calls Tryd.prog 85 #[.agg #[.int .i64 op, .int .i64 n, .string ty, .bool ri, .string rc, .string rn, .string rd]] w fun e w' => e = .returned (.bool (opB op n ty rc rn rd)) ∧ Below w.heap.size w w' := by
  have B0 := Lib.hid (blk_new w (.cells #[.int .i64 op, .int .i64 n, .string ty, .bool ri, .string rc, .string rn, .string rd] 83))
  have AB := Lib.hid ((Below.refl w.heap.size w).alloc (Nat.le_refl _) (.cells #[.int .i64 op, .int .i64 n, .string ty, .bool ri, .string rc, .string rn, .string rd] 83))
  have OP := Lib.hid (Cd.operand_any op (w.alloc (.cells #[.int .i64 op, .int .i64 n, .string ty, .bool ri, .string rc, .string rn, .string rd] 83)))
  have CV := Lib.hid (fun W => names_Valid.calls ty _ W rfl)
  have CR := Lib.hid (fun W => types_ParseRef.calls ty _ _ _ W rfl)
  have CP := Lib.hid (fun W => types_Parse.calls ty _ _ _ W rfl)
  have CF := Lib.hid (fun W => refck_any ri rc rn rd W)
  have K := opnd_cases op
  generalize hr : opB op n ty rc rn rd = r
  replace hr := Lib.hid hr
  unfold opB at hr
  generalize opnd op = k at *
  generalize parseR ty.data.toList = p1 at *
  generalize parseT ty.data.toList = p2 at *
  generalize refV rc rn rd = fv at *
  obtain ⟨d1, s1, e1⟩ := p1
  obtain ⟨d2, s2, e2⟩ := p2
  go_enter Tryd.func85, Tryd.ntmps85
  go_wp2_with fail
  refine OP.out.mono ?_
  rintro e w1 ⟨rfl, hb1⟩
  have B1 := blk_below B0.out hb1
  have H1 := Lib.hid (AB.out.trans (hb1.mono AB.out.size))
  have q1 : w1.cell? ⟨w.heap.size, 1, none⟩ = some (.int .i64 n) := (blk_cell B1 1).trans rfl
  have q2 : w1.cell? ⟨w.heap.size, 2, none⟩ = some (.string ty) := (blk_cell B1 2).trans rfl
  have q3 : w1.cell? ⟨w.heap.size, 3, none⟩ = some (.bool ri) := (blk_cell B1 3).trans rfl
  have q4 : w1.cell? ⟨w.heap.size, 4, none⟩ = some (.string rc) := (blk_cell B1 4).trans rfl
  have q5 : w1.cell? ⟨w.heap.size, 5, none⟩ = some (.string rn) := (blk_cell B1 5).trans rfl
  have q6 : w1.cell? ⟨w.heap.size, 6, none⟩ = some (.string rd) := (blk_cell B1 6).trans rfl
  replace B1 := Lib.hid B1
  clear B0 AB OP hb1
  rcases K with rfl | rfl | rfl | rfl | rfl | rfl | rfl | rfl | rfl | rfl
  case inl =>
    go_wp2
    go_ret
    exact ⟨by rw [← hr.out]; rfl, H1.out⟩
  case inr.inl =>
    go_wp2
    go_ret
    exact ⟨by rw [← hr.out]; rfl, H1.out⟩
  case inr.inr.inr.inr.inr.inl =>
    go_wp2_with fail
    refine (CV.out _).mono ?_
    rintro e w2 ⟨rfl, hb2⟩
    replace hb2 := Lib.hid hb2
    go_wp2
    go_ret
    exact ⟨by rw [← hr.out]; rfl, H1.out.trans (hb2.out.mono H1.out.size)⟩
  case inr.inr.inr.inr.inr.inr.inl =>
    go_wp2_with fail
    refine (CR.out _).mono ?_
    rintro e w2 ⟨rfl, hb2⟩
    have H2 := Lib.hid (H1.out.trans (hb2.mono H1.out.size))
    clear hb2
    go_wp2
    go_ret
    exact ⟨by rw [← hr.out]; rfl, H2.out.alloc H2.out.size _⟩
  case inr.inr.inr.inr.inr.inr.inr.inl =>
    go_wp2_with fail
    refine (CP.out _).mono ?_
    rintro e w2 ⟨rfl, hb2⟩
    have H2 := Lib.hid (H1.out.trans (hb2.mono H1.out.size))
    clear hb2
    by_cases h2 : e2 = 0
    · subst h2
      go_wp2
      all_goals
        go_ret
        exact ⟨by rw [← hr.out]; simp_all, H2.out.alloc H2.out.size _⟩
    · have hne : (e2 == 0) = false := beq_eq_false_iff_ne.2 h2
      go_wp2
      go_ret
      exact ⟨by rw [← hr.out]; simp_all, H2.out.alloc H2.out.size _⟩
  case inr.inr.inr.inr.inr.inr.inr.inr.inl =>
    go_wp2_with fail
    refine (CR.out _).mono ?_
    rintro e w2 ⟨rfl, hb2⟩
    have H2 := Lib.hid (H1.out.trans (hb2.mono H1.out.size))
    have r1 := cell_allocs (pw_cell_below hb2 q1)
    clear hb2
    by_cases h1 : e1 = 0
    · subst h1
      go_wp2_with fail
      refine (within_any _ _ _ _).mono ?_
      rintro e w3 ⟨rfl, rfl⟩
      go_wp2
      go_ret
      exact ⟨by rw [← hr.out]; simp_all, H2.out.alloc H2.out.size _⟩
    · have hne : (e1 == 0) = false := beq_eq_false_iff_ne.2 h1
      go_wp2
      go_ret
      exact ⟨by rw [← hr.out]; simp_all, H2.out.alloc H2.out.size _⟩
  case inr.inr.inr.inr.inr.inr.inr.inr.inr =>
    go_wp2_with fail
    refine (CF.out _).mono ?_
    rintro e w2 ⟨rfl, hb2⟩
    have H2 := Lib.hid (H1.out.trans (hb2.mono H1.out.size))
    clear hb2
    go_wp2
    go_ret
    exact ⟨by rw [← hr.out]; rfl, H2.out⟩
  all_goals
    go_wp2_with fail
    refine (within_any _ _ _ _).mono ?_
    rintro e w2 ⟨rfl, rfl⟩
    go_wp2
    go_ret
    exact ⟨by rw [← hr.out]; rfl, H1.out⟩
end Go.Proofs.YtmlifggklaeieaaDoor.Pt

/- code.Check: an instruction that has what its operand asks for, and nothing else. -/
namespace Go.Proofs.YtmlifggklaeieaaDoor.Pt
open Go Go.RowKit Go.Proofs.YtmlifggklaeieaaDoorW.PrintWords Go.Proofs.YtmlifggklaeieaaDoorW.PrintLast Go.Proofs.YtmlifggklaeieaaDoorW.PrintMore
set_option linter.unusedVariables false
set_option linter.unusedSimpArgs false
set_option maxHeartbeats 1000000

theorem eqRef (d : Nat) (w : World) (x0 y0 : Bool) (x1 y1 : ByteArray) (x2 y2 : ByteArray) (x3 y3 : ByteArray) :
  (Op.equalIn (d + 2) 81 (.agg #[.bool x0, .string x1, .string x2, .string x3]) (.agg #[.bool y0, .string y1, .string y2, .string y3])).run Tryd.prog w = .ok (x0 == y0 && (x1.toList == y1.toList && (x2.toList == y2.toList && (x3.toList == y3.toList)))) w := by
  refine eqA_of Tryd.underlying81 (by kernel_rfl) ?_
  refine eqf_cons (by rfl) (by go_simp; rfl) (by go_simp; rfl) (by go_simp) ?_
  refine eqf_cons (by rfl) (by go_simp; rfl) (by go_simp; rfl) (by go_simp) ?_
  refine eqf_cons (by rfl) (by go_simp; rfl) (by go_simp; rfl) (by go_simp) ?_
  exact eqf_last (by rfl) (by go_simp; rfl) (by go_simp; rfl) (by go_simp)
/-- Do two instructions have the same in each field? -/
def sameI (x0 y0 : Int) (x1 y1 : Int) (x2 y2 : ByteArray) (x3 y3 : Bool) (x4 y4 : ByteArray) (x5 y5 : ByteArray) (x6 y6 : ByteArray) : Bool :=
  x0 == y0 && (x1 == y1 && (x2.toList == y2.toList && ((x3 == y3 && (x4.toList == y4.toList && (x5.toList == y5.toList && (x6.toList == y6.toList)))))))
theorem eqInst (d : Nat) (w : World) (x0 y0 : Int) (x1 y1 : Int) (x2 y2 : ByteArray) (x3 y3 : Bool) (x4 y4 : ByteArray) (x5 y5 : ByteArray) (x6 y6 : ByteArray) :
  (Op.equalIn (d + 3) 83 (.agg #[.int .i64 x0, .int .i64 x1, .string x2, .bool x3, .string x4, .string x5, .string x6]) (.agg #[.int .i64 y0, .int .i64 y1, .string y2, .bool y3, .string y4, .string y5, .string y6])).run Tryd.prog w = .ok (sameI x0 y0 x1 y1 x2 y2 x3 y3 x4 y4 x5 y5 x6 y6) w := by
  unfold sameI
  refine eqA_of Tryd.underlying83 (by kernel_rfl) ?_
  refine eqf_cons (by rfl) (by go_simp; rfl) (by go_simp; rfl) (by go_simp) ?_
  refine eqf_cons (by rfl) (by go_simp; rfl) (by go_simp; rfl) (by go_simp) ?_
  refine eqf_cons (by rfl) (by go_simp; rfl) (by go_simp; rfl) (by go_simp) ?_
  exact eqf_last (by rfl) (by go_simp) (by go_simp) (eqRef (d + 0) w _ _ _ _ _ _ _ _)
theorem neqInst (w : World) (x0 y0 : Int) (x1 y1 : Int) (x2 y2 : ByteArray) (x3 y3 : Bool) (x4 y4 : ByteArray) (x5 y5 : ByteArray) (x6 y6 : ByteArray) :
  (binOp .neq 83 (.agg #[.int .i64 x0, .int .i64 x1, .string x2, .bool x3, .string x4, .string x5, .string x6]) (.agg #[.int .i64 y0, .int .i64 y1, .string y2, .bool y3, .string y4, .string y5, .string y6])).run Tryd.prog w = .ok (.bool (!sameI x0 y0 x1 y1 x2 y2 x3 y3 x4 y4 x5 y5 x6 y6)) w := by
  have h := eqInst 9997 w x0 y0 x1 y1 x2 y2 x3 y3 x4 y4 x5 y5 x6 y6
  simp only [binOp]
  simp [Op.equal, Op.maxDepth, h]
/-- What stands beside the number of the instruction, where the operand asks for it. -/
def bareN (k n : Int) : Int := if k = 1 ∨ k = 2 ∨ k = 3 ∨ k = 7 then n else 0
def bareT (k : Int) (s : ByteArray) : ByteArray := if k = 4 ∨ k = 5 ∨ k = 6 ∨ k = 7 then s else ⟨#[]⟩
def bareS (k : Int) (s : ByteArray) : ByteArray := if k = 8 then s else ⟨#[]⟩
def bareB (k : Int) (b : Bool) : Bool := if k = 8 then b else false
def bareOk (op n : Int) (ty : ByteArray) (ri : Bool) (rc rn rd : ByteArray) : Bool :=
  sameI op op (bareN (Cd.opnd op) n) n (bareT (Cd.opnd op) ty) ty (bareB (Cd.opnd op) ri) ri (bareS (Cd.opnd op) rc) rc (bareS (Cd.opnd op) rn) rn (bareS (Cd.opnd op) rd) rd
def insV (x : S83) : Int := if bareOk x.f0 x.f1 x.f2 x.f3.f0 x.f3.f1 x.f3.f2 x.f3.f3 = true then (if opB x.f0 x.f1 x.f2 x.f3.f1 x.f3.f2 x.f3.f3 = true then 0 else 1) else 1
theorem cdck_any (op n : Int) (ty : ByteArray) (ri : Bool) (rc rn rd : ByteArray) (w : World) :
    Calls Tryd.prog 80 #[.agg #[.int .i64 op, .int .i64 n, .string ty, .bool ri, .string rc, .string rn, .string rd]] w fun e w' => e = .returned (.int .i64 (insV ⟨op, n, ty, ⟨ri, rc, rn, rd⟩⟩)) ∧ Below w.heap.size w w' := by
  have CO := Lib.hid (fun W => oper_any op n ty ri rc rn rd W)
  generalize hr : insV ⟨op, n, ty, ⟨ri, rc, rn, rd⟩⟩ = r
  unfold insV at hr
  simp only at hr
  generalize opB op n ty rc rn rd = t at *
  have OP := Lib.hid (fun W => Cd.operand_any op W)
  have K := opnd_cases op
  have hb : bareOk op n ty ri rc rn rd = sameI op op (bareN (Cd.opnd op) n) n (bareT (Cd.opnd op) ty) ty (bareB (Cd.opnd op) ri) ri (bareS (Cd.opnd op) rc) rc (bareS (Cd.opnd op) rn) rn (bareS (Cd.opnd op) rd) rd := rfl
  generalize bareOk op n ty ri rc rn rd = bo at *
  generalize Cd.opnd op = k at *
  have B0 := heap_alloc2_old w (.cells #[.int .i64 op, .int .i64 n, .string ty, .bool ri, .string rc, .string rn, .string rd] 83) (.cells #[.int .i64 op, .int .i64 0, .string ⟨#[]⟩, .bool false, .string ⟨#[]⟩, .string ⟨#[]⟩, .string ⟨#[]⟩] 83)
  have B1 := heap_alloc2_new w (.cells #[.int .i64 op, .int .i64 n, .string ty, .bool ri, .string rc, .string rn, .string rd] 83) (.cells #[.int .i64 op, .int .i64 0, .string ⟨#[]⟩, .bool false, .string ⟨#[]⟩, .string ⟨#[]⟩, .string ⟨#[]⟩] 83)
  have BB := ((Below.refl w.heap.size w).alloc (Nat.le_refl _) (.cells #[.int .i64 op, .int .i64 n, .string ty, .bool ri, .string rc, .string rn, .string rd] 83)).alloc (by simp) (.cells #[.int .i64 op, .int .i64 0, .string ⟨#[]⟩, .bool false, .string ⟨#[]⟩, .string ⟨#[]⟩, .string ⟨#[]⟩] 83)
  replace B0 := Lib.hid B0
  replace B1 := Lib.hid B1
  replace BB := Lib.hid BB
  replace hb := Lib.hid hb
  replace hr := Lib.hid hr
  replace K := Lib.hid K
  go_enter Tryd.func80, Tryd.ntmps80
  go_wp2_with fail
  refine (OP.out _).mono ?_
  rintro e w1 ⟨rfl, hb1⟩
  have C0 := blk_below B0.out hb1
  have C1 := blk_below B1.out hb1
  have CB := BB.out.trans (hb1.mono (by simp; omega))
  have q0 : w1.cell? ⟨w.heap.size, 0, none⟩ = some (.int .i64 op) := (blk_cell C0 0).trans rfl
  have q1 : w1.cell? ⟨w.heap.size, 1, none⟩ = some (.int .i64 n) := (blk_cell C0 1).trans rfl
  have q2 : w1.cell? ⟨w.heap.size, 2, none⟩ = some (.string ty) := (blk_cell C0 2).trans rfl
  have q3 : w1.cell? ⟨w.heap.size, 3, none⟩ = some (.bool ri) := (blk_cell C0 3).trans rfl
  have q4 : w1.cell? ⟨w.heap.size, 4, none⟩ = some (.string rc) := (blk_cell C0 4).trans rfl
  have q5 : w1.cell? ⟨w.heap.size, 5, none⟩ = some (.string rn) := (blk_cell C0 5).trans rfl
  have q6 : w1.cell? ⟨w.heap.size, 6, none⟩ = some (.string rd) := (blk_cell C0 6).trans rfl
  have p0 : w1.cell? ⟨w.heap.size + 1, 0, none⟩ = some (.int .i64 op) := (blk_cell C1 0).trans rfl
  have p1 : w1.cell? ⟨w.heap.size + 1, 1, none⟩ = some (.int .i64 0) := (blk_cell C1 1).trans rfl
  have p2 : w1.cell? ⟨w.heap.size + 1, 2, none⟩ = some (.string ⟨#[]⟩) := (blk_cell C1 2).trans rfl
  have p3 : w1.cell? ⟨w.heap.size + 1, 3, none⟩ = some (.bool false) := (blk_cell C1 3).trans rfl
  have p4 : w1.cell? ⟨w.heap.size + 1, 4, none⟩ = some (.string ⟨#[]⟩) := (blk_cell C1 4).trans rfl
  have p5 : w1.cell? ⟨w.heap.size + 1, 5, none⟩ = some (.string ⟨#[]⟩) := (blk_cell C1 5).trans rfl
  have p6 : w1.cell? ⟨w.heap.size + 1, 6, none⟩ = some (.string ⟨#[]⟩) := (blk_cell C1 6).trans rfl
  have f1 := blk_frozen C1 1
  have f2 := blk_frozen C1 2
  have f3 := blk_frozen C1 3
  have f4 := blk_frozen C1 4
  have f5 := blk_frozen C1 5
  have f6 := blk_frozen C1 6
  have hN : ∀ (b1 : Int) (b2 : ByteArray) (b3 : Bool) (b4 b5 b6 : ByteArray), bo = sameI op op b1 n b2 ty b3 ri b4 rc b5 rn b6 rd → ∀ W, (binOp .neq 83 (.agg #[.int .i64 op, .int .i64 b1, .string b2, .bool b3, .string b4, .string b5, .string b6]) (.agg #[.int .i64 op, .int .i64 n, .string ty, .bool ri, .string rc, .string rn, .string rd])).run Tryd.prog W = .ok (.bool (!bo)) W := fun b1 b2 b3 b4 b5 b6 e W => by rw [e]; exact neqInst W _ _ _ _ _ _ _ _ _ _ _ _ _ _
  replace hN := Lib.hid hN
  replace CB := Lib.hid CB
  clear C0 C1 B0 B1 BB hb1 OP
  rcases K.out with rfl | rfl | rfl | rfl | rfl | rfl | rfl | rfl | rfl | rfl
  case inr.inr.inr.inr.inr.inr.inr.inr.inl =>
    have e := hb.out
    simp [bareN, bareT, bareS, bareB] at e
    have N1 := hN.out _ _ _ _ _ _ e
    clear e hb K hN
    go_wp2
    go_region
    cases bo
    · have h1 : (1 : Int) = r := by have := hr.out; simpa using this
      subst h1
      clear CO
      go_wp2
      go_ret
      refine ⟨rfl, ?_⟩
      repeat' (first | exact CB.out | apply Below.setCell | apply Below.drew)
      all_goals (first | omega | (simp; done) | (simp; omega))
    · have hr1 := hr.out
      cases t
      all_goals
        simp at hr1
        subst hr1
        go_wp2_with (go_at_call 85; refine (CO.out _).mono ?_; rintro e w2 ⟨rfl, hb2⟩; replace hb2 := Lib.hid hb2)
        go_ret
        refine ⟨rfl, Below.trans ?_ (hb2.out.mono ?_)⟩
        · repeat' (first | exact CB.out | apply Below.setCell | apply Below.drew)
          all_goals (first | omega | (simp; done) | (simp; omega))
        · have := CB.out.size
          simp
          omega
  all_goals
    have e := hb.out
    simp [bareN, bareT, bareS, bareB] at e
    have N1 := hN.out _ _ _ _ _ _ e
    clear e hb K hN
    cases bo
    · have h1 : (1 : Int) = r := by have := hr.out; simpa using this
      subst h1
      clear CO
      go_wp2
      go_ret
      refine ⟨rfl, ?_⟩
      repeat' (first | exact CB.out | apply Below.setCell)
      all_goals (first | omega | (simp; done) | (simp; omega))
    · have hr1 := hr.out
      cases t
      all_goals
        simp at hr1
        subst hr1
        go_wp2_with (go_at_call 85; refine (CO.out _).mono ?_; rintro e w2 ⟨rfl, hb2⟩; replace hb2 := Lib.hid hb2)
        go_ret
        refine ⟨rfl, Below.trans ?_ (hb2.out.mono ?_)⟩
        · repeat' (first | exact CB.out | apply Below.setCell)
          all_goals (first | omega | (simp; done) | (simp; omega))
        · have := CB.out.size
          simp
          omega
end Go.Proofs.YtmlifggklaeieaaDoor.Pt

/- code.CheckAll, shapes.Words, slices.Contains of texts, walked by hand. -/
namespace Go.Proofs.YtmlifggklaeieaaDoor.Pt
open Go Go.RowKit Go.Proofs.YtmlifggklaeieaaDoor.Nm Go.Proofs.YtmlifggklaeieaaDoor.Ty Go.Proofs.YtmlifggklaeieaaDoor.Cd Go.Proofs.YtmlifggklaeieaaDoorW.PrintWords Go.Proofs.YtmlifggklaeieaaDoorW.PrintLast Go.Proofs.YtmlifggklaeieaaDoorW.PrintMore
set_option linter.unusedVariables false
set_option linter.unusedSimpArgs false
set_option maxHeartbeats 2000000
set_option maxRecDepth 100000

def insOk (x : S83) (a n : Int) : Bool := insV x == 0 && (!(opnd x.f0 == 2 && decide (a ≤ x.f1)) && !(opnd x.f0 == 3 && decide (n ≤ x.f1)))
def codeB (l : List S83) (a : Int) : Bool := wthB l.length 1 200 && l.all (fun x => insOk x a l.length)
theorem rd83 {l : List S83} {i : Nat} (h : i < l.length) : l[i]? = some (rd_T83 l (i : Int)) := by
  simp [rd_T83, List.getD_eq_getElem?_getD, List.getElem?_eq_getElem h]
theorem bad_all {α : Type} {l : List α} {p : α → Bool} {i : Nat} {x : α} (hx : l[i]? = some x) (h : p x = false) : l.all p = false := by
  rw [List.all_eq_false]
  exact ⟨x, List.mem_of_getElem? hx, by simp [h]⟩
theorem all_take {α : Type} {l : List α} {p : α → Bool} {i : Nat} {x : α} (hx : l[i]? = some x) (h : p x = true) (ht : (l.take i).all p = true) : (l.take (i + 1)).all p = true := by
  rw [List.take_add_one, hx, List.all_append, ht]
  simp [h]
theorem code_any (A : Option Addr) (c : Nat) (l : List S83) (a : Int) (w : World) (hk : Kd.C k83 w A l.length l) (hc : l.length ≤ c) :
    Calls Tryd.prog 67 #[.slice A l.length c, .int .i64 a] w fun e w' => e = .returned (.int .i64 (if codeB l a = true then 0 else 1)) ∧ Below w.heap.size w w' := by
  have HK := Lib.hid hk
  have hmx := Kd.C_max hk
  clear hk
  generalize hr : (if codeB l a = true then (0 : Int) else 1) = r
  replace hr := Lib.hid hr
  unfold codeB at hr
  cases hw : wthB l.length 1 200 with
  | false =>
    rw [hw] at hr
    have C1 := Lib.hid (within_any (l.length : Int) 1 200 w)
    rw [hw] at C1
    go_enter Tryd.func67, Tryd.ntmps67
    go_wp2_with fail
    refine C1.out.mono ?_
    rintro e w2 ⟨rfl, rfl⟩
    go_wp2
    go_ret
    have := hr.out
    simp at this
    subst this
    exact ⟨rfl, Below.refl _ _⟩
  | true =>
    rw [hw, Bool.true_and] at hr
    have hl : l.length ≤ 200 := by
      unfold wthB at hw
      rw [Bool.and_eq_true, decide_eq_true_eq, decide_eq_true_eq] at hw
      omega
    have C1 := Lib.hid (within_any (l.length : Int) 1 200 w)
    rw [hw] at C1
    clear hw
    go_enter Tryd.func67, Tryd.ntmps67
    go_wp2_with fail
    refine C1.out.mono ?_
    rintro e w2 ⟨rfl, rfl⟩
    clear C1
    go_wp2_with fail
    go_loopw [14] (fun v14 wr => ∃ j : Nat, j ≤ l.length ∧ v14 = .int .i64 j ∧ Hid ((l.take j).all (fun x => insOk x a l.length) = true) ∧ Hid (Below w2.heap.size w2 wr)) (fun v14 _ => l.length - (intOf v14).toNat)
    case atStart => exact ⟨0, Nat.zero_le _, rfl, Lib.hid (by simp), Lib.hid (Below.refl _ _)⟩
    case round =>
      obtain ⟨j, hj, rfl, HT, HB⟩ := hrel
      by_cases hlt : j < l.length
      · have hjd : decide (j < l.length) = true := decide_eq_true hlt
        obtain ⟨ad, rfl, p0, p1, p2, p3, p4, p5, p6⟩ := at_T83 (Kd.C_below HK.out HB.out) (j : Int) (by omega) (by omega)
        have hx := rd83 hlt
        rw [Int.toNat_natCast] at p0 p1 p2 p3 p4 p5 p6
        have OPc := Lib.hid (fun W => Cd.operand_any (rd_T83 l (j : Int)).f0 W)
        have CK := Lib.hid (fun W => cdck_any (rd_T83 l (j : Int)).f0 (rd_T83 l (j : Int)).f1 (rd_T83 l (j : Int)).f2 (rd_T83 l (j : Int)).f3.f0 (rd_T83 l (j : Int)).f3.f1 (rd_T83 l (j : Int)).f3.f2 (rd_T83 l (j : Int)).f3.f3 W)
        generalize rd_T83 l (j : Int) = x at *
        have hV : Hid (insOk x a l.length = (insV x == 0 && (!(opnd x.f0 == 2 && decide (a ≤ x.f1)) && !(opnd x.f0 == 3 && decide ((l.length : Int) ≤ x.f1))))) := Lib.hid rfl
        have hx2 := Lib.hid hx
        have hbad : Hid (insOk x a l.length = false → (1 : Int) = r) := Lib.hid (fun h => by rw [← hr.out, bad_all hx h]; rfl)
        have hgood : Hid (insOk x a l.length = true → (l.take (j + 1)).all (fun x => insOk x a l.length) = true) := Lib.hid (fun h => all_take hx h HT.out)
        clear hx
        generalize insOk x a l.length = ok at *
        obtain ⟨x0, x1, x2, ⟨x3, x4, x5, x6⟩⟩ := x
        simp only at hV OPc CK p0 p1 p2 p3 p4 p5 p6
        generalize insV ⟨x0, x1, x2, ⟨x3, x4, x5, x6⟩⟩ = iv at *
        generalize opnd x0 = kk at *
        have B0 := Lib.hid (blk_new wr (.cells #[.int .i64 x0, .int .i64 x1, .string x2, .bool x3, .string x4, .string x5, .string x6] 83))
        have AB := Lib.hid (HB.out.alloc HB.out.size (.cells #[.int .i64 x0, .int .i64 x1, .string x2, .bool x3, .string x4, .string x5, .string x6] 83))
        clear hx2 HT
        go_wp2_with fail
        refine (OPc.out _).mono ?_
        rintro e w3 ⟨rfl, hb3⟩
        have B3 := Lib.hid (blk_below B0.out hb3)
        have H3 := Lib.hid (AB.out.trans (hb3.mono AB.out.size))
        clear hb3 B0 AB HB OPc p0 p1 p2 p3 p4 p5 p6
        have p0 : w3.cell? ⟨wr.heap.size, 0, none⟩ = some (.int .i64 x0) := (blk_cell B3.out 0).trans rfl
        have p1 : w3.cell? ⟨wr.heap.size, 1, none⟩ = some (.int .i64 x1) := (blk_cell B3.out 1).trans rfl
        have p2 : w3.cell? ⟨wr.heap.size, 2, none⟩ = some (.string x2) := (blk_cell B3.out 2).trans rfl
        have p3 : w3.cell? ⟨wr.heap.size, 3, none⟩ = some (.bool x3) := (blk_cell B3.out 3).trans rfl
        have p4 : w3.cell? ⟨wr.heap.size, 4, none⟩ = some (.string x4) := (blk_cell B3.out 4).trans rfl
        have p5 : w3.cell? ⟨wr.heap.size, 5, none⟩ = some (.string x5) := (blk_cell B3.out 5).trans rfl
        have p6 : w3.cell? ⟨wr.heap.size, 6, none⟩ = some (.string x6) := (blk_cell B3.out 6).trans rfl
        go_wp2_with fail
        refine (CK.out _).mono ?_
        rintro e w4 ⟨rfl, hb4⟩
        have q1 := pw_cell_below hb4 p1
        have H4 := Lib.hid (H3.out.trans (hb4.mono H3.out.size))
        clear hb4 B3 H3 CK p0 p1 p2 p3 p4 p5 p6
        have hend : Hid (ok = true → ∃ j' : Nat, j' ≤ l.length ∧ (Value.int .i64 ((j : Int) + 1)) = .int .i64 j' ∧ Hid ((l.take j').all (fun x => insOk x a l.length) = true) ∧ Hid (Below w2.heap.size w2 w4)) := Lib.hid (fun h => ⟨j + 1, by omega, by push_cast; rfl, Lib.hid (hgood.out h), H4⟩)
        by_cases hi : iv = 0
        · subst hi
          by_cases h2 : kk = 2
          · subst h2
            by_cases h3 : a ≤ x1
            · have hd : decide (a ≤ x1) = true := decide_eq_true h3
              have hok := hV.out
              simp [hd] at hok
              obtain rfl := hbad.out hok
              clear h3
              go_wp2
              go_ret
              exact ⟨rfl, H4.out⟩
            · have hd : decide (a ≤ x1) = false := decide_eq_false h3
              have hok := hV.out
              simp [hd] at hok
              clear h3
              go_wp2
              exact ⟨hend.out hok, by simp [intOf]; omega⟩
          · have hk2 : (kk == 2) = false := beq_eq_false_iff_ne.2 h2
            by_cases h3 : kk = 3
            · subst h3
              by_cases h4 : (l.length : Int) ≤ x1
              · have hd : decide ((l.length : Int) ≤ x1) = true := decide_eq_true h4
                have hok := hV.out
                simp [hd] at hok
                obtain rfl := hbad.out hok
                clear h4 h2
                go_wp2
                go_ret
                exact ⟨rfl, H4.out⟩
              · have hd : decide ((l.length : Int) ≤ x1) = false := decide_eq_false h4
                have hok := hV.out
                simp [hd] at hok
                clear h4 h2
                go_wp2
                exact ⟨hend.out hok, by simp [intOf]; omega⟩
            · have hk3 : (kk == 3) = false := beq_eq_false_iff_ne.2 h3
              have hok := hV.out
              rw [hk2, hk3] at hok
              simp at hok
              clear h2 h3
              go_wp2
              exact ⟨hend.out hok, by simp [intOf]; omega⟩
        · have hne : (iv != 0) = true := bne_iff_ne.2 hi
          have hok := hV.out
          rw [show (iv == 0) = false from beq_eq_false_iff_ne.2 hi, Bool.false_and] at hok
          obtain rfl := hbad.out hok
          clear hi
          go_wp2
          go_ret
          exact ⟨rfl, H4.out⟩
      · have hjd : decide (j < l.length) = false := decide_eq_false hlt
        have e1 : j = l.length := by omega
        subst e1
        have h1 := HT.out
        rw [List.take_length] at h1
        have h2 := hr.out
        rw [h1] at h2
        simp at h2
        subst h2
        clear h1
        go_wp2
        go_ret
        exact ⟨rfl, HB.out⟩
/-- The words of a method. -/
def wordsV (d : ByteArray) (f : Int) : Int := if Go.bits .and .i64 f 8 = 0 then wrap64 (((parseD d.data.toList).1.args.length : Int) + 1) else ((parseD d.data.toList).1.args.length : Int)
theorem words_any (f0 d : ByteArray) (f f3 f4 : Int) (v5 : Value) (h5 : ∃ A n c, v5 = .slice A n c) (w : World) (hp : (parseD d.data.toList).2 = 0) :
    Calls Tryd.prog 66 #[.agg #[.string f0, .string d, .int .i64 f, .int .i64 f3, .int .i64 f4, v5]] w fun e w' => e = .returned (.tuple #[.int .i64 (wordsV d f), .int .i64 0]) ∧ Below w.heap.size w w' := by
  obtain ⟨A, n, c, rfl⟩ := h5
  have B0 := Lib.hid (blk_new w (.cells #[.string f0, .string d, .int .i64 f, .int .i64 f3, .int .i64 f4, .slice A n c] 51))
  have AB := Lib.hid ((Below.refl w.heap.size w).alloc (Nat.le_refl _) (.cells #[.string f0, .string d, .int .i64 f, .int .i64 f3, .int .i64 f4, .slice A n c] 51))
  have C1 := Lib.hid (types_Args.calls d _ _ (w.alloc (.cells #[.string f0, .string d, .int .i64 f, .int .i64 f3, .int .i64 f4, .slice A n c] 51)) rfl)
  generalize hr : wordsV d f = r
  replace hr := Lib.hid hr
  unfold wordsV at hr
  rw [hp] at C1
  clear hp
  generalize ((parseD d.data.toList).1.args.length : Int) = m at *
  go_enter Tryd.func66, Tryd.ntmps66
  go_wp2_with fail
  refine C1.out.mono ?_
  rintro e w2 ⟨rfl, hb2⟩
  have q2 : w2.cell? ⟨w.heap.size, 2, none⟩ = some (.int .i64 f) := (blk_cell (blk_below B0.out hb2) 2).trans rfl
  have H2 := Lib.hid (AB.out.trans (hb2.mono AB.out.size))
  clear C1 hb2 B0 AB
  by_cases h8 : Go.bits .and .i64 f 8 = 0
  · have hd : (Go.bits .and .i64 f 8 == 0) = true := beq_iff_eq.2 h8
    rw [if_pos h8] at hr
    clear h8
    go_wp2
    go_ret2
    exact ⟨by rw [← hr.out]; rfl, H2.out⟩
  · have hd : (Go.bits .and .i64 f 8 == 0) = false := beq_eq_false_iff_ne.2 h8
    rw [if_neg h8] at hr
    clear h8
    go_wp2
    go_ret2
    exact ⟨by rw [← hr.out]; rfl, H2.out⟩
end Go.Proofs.YtmlifggklaeieaaDoor.Pt

/- shapes.method, walked by hand. -/
namespace Go.Proofs.YtmlifggklaeieaaDoor.Pt
open Go Go.RowKit Go.Proofs.YtmlifggklaeieaaDoor.Nm Go.Proofs.YtmlifggklaeieaaDoor.Ty Go.Proofs.YtmlifggklaeieaaDoor.Cd Go.Proofs.YtmlifggklaeieaaDoorW.PrintWords Go.Proofs.YtmlifggklaeieaaDoorW.PrintLast Go.Proofs.YtmlifggklaeieaaDoorW.PrintMore
set_option linter.unusedVariables false
set_option linter.unusedSimpArgs false
set_option maxHeartbeats 2000000
set_option maxRecDepth 100000

/-- What is at fault in a method's name and descriptor. -/
def badV (n d : ByteArray) : Bool := !((parseD d.data.toList).2 == 0) || (!memberB n || ((n.toList == ([60, 105, 110, 105, 116, 62] : List UInt8)) && !(parseD d.data.toList).1.void))
/-- A method that is sound in its class. -/
def methB (m : S51) (b : Bool) : Bool := !badV m.f0 m.f1 && (mflV m.f2 b m.f0 == 0 &&
  (if Go.bits .and .i64 m.f2 1024 = 0 then decide (wordsV m.f1 m.f2 ≤ m.f3) && (decide (m.f3 ≤ 40) && (decide (0 ≤ m.f4) && (decide (m.f4 ≤ 40) && codeB m.f5 m.f3))) else m.f3 == 0 && (m.f4 == 0 && (m.f5.length : Int) == 0)))
theorem meth_any (f0 f1 : ByteArray) (f2 f3 f4 : Int) (A : Option Addr) (c : Nat) (l : List S83) (b : Bool) (w : World) (hk : Kd.C k83 w A l.length l) (hc : l.length ≤ c) :
    Calls Tryd.prog 54 #[.agg #[.string f0, .string f1, .int .i64 f2, .int .i64 f3, .int .i64 f4, .slice A l.length c], .bool b] w fun e w' => e = .returned (.bool (methB ⟨f0, f1, f2, f3, f4, l⟩ b)) ∧ Below w.heap.size w w' := by
  have B0 := Lib.hid (blk_new w (.cells #[.string f0, .string f1, .int .i64 f2, .int .i64 f3, .int .i64 f4, .slice A l.length c] 51))
  have AB := Lib.hid ((Below.refl w.heap.size w).alloc (Nat.le_refl _) (.cells #[.string f0, .string f1, .int .i64 f2, .int .i64 f3, .int .i64 f4, .slice A l.length c] 51))
  have C1 := Lib.hid (types_ParseDesc.calls f1 _ _ _ _ _ (w.alloc (.cells #[.string f0, .string f1, .int .i64 f2, .int .i64 f3, .int .i64 f4, .slice A l.length c] 51)) rfl)
  have CM := Lib.hid (fun W => names_Member.calls f0 _ W rfl)
  have CF := Lib.hid (fun W => mfl_any f2 b f0 W)
  have CW := Lib.hid (fun (W : World) (hp : (parseD f1.data.toList).2 = 0) => words_any f0 f1 f2 f3 f4 (.slice A l.length c) ⟨_, _, _, rfl⟩ W hp)
  have CC := Lib.hid (fun (W : World) (hb : Below w.heap.size w W) => code_any A c l f3 W (Kd.C_below hk hb) hc)
  clear hk
  generalize hr : methB ⟨f0, f1, f2, f3, f4, l⟩ b = r
  replace hr := Lib.hid hr
  unfold methB badV at hr
  simp only at hr
  generalize mflV f2 b f0 = mf at *
  generalize wordsV f1 f2 = wd at *
  generalize codeB l f3 = cb at *
  generalize memberB f0 = mb at *
  generalize parseD f1.data.toList = pd at *
  obtain ⟨dr, e1⟩ := pd
  obtain ⟨ar, vd, rd, rn⟩ := dr
  have hn : Hid ((f0.toList == ([60, 105, 110, 105, 116, 62] : List UInt8)) = (f0.toList == ([60, 105, 110, 105, 116, 62] : List UInt8))) := Lib.hid rfl
  simp only at hr CW
  go_enter Tryd.func54, Tryd.ntmps54
  go_wp2_with fail
  refine C1.out.mono ?_
  rintro e w1 ⟨v0, rfl, R0, hb1⟩
  obtain ⟨A0, n0, c0, rfl⟩ : ∃ A n c, v0 = .slice A n c := by
    obtain ⟨A0, c0, e⟩ := Kd.R_slice R0
    exact ⟨_, _, _, e⟩
  have B1 := Lib.hid (blk_below B0.out hb1)
  have H1 := Lib.hid (AB.out.trans (hb1.mono AB.out.size))
  clear C1 R0 hb1 B0 AB
  go_upto_region 2 with (fail)
  change Code.wp _ _ _ _ (w1.alloc (.cells #[.slice A0 n0 c0, .bool vd, .int .i64 rd, .string (bs rn)] 113))
  have D2 := Lib.hid (blk_new w1 (.cells #[.slice A0 n0 c0, .bool vd, .int .i64 rd, .string (bs rn)] 113))
  have B2 := Lib.hid (blk_below B1.out ((Below.refl _ _).alloc (Nat.le_refl _) (.cells #[.slice A0 n0 c0, .bool vd, .int .i64 rd, .string (bs rn)] 113)))
  have H2 := Lib.hid (H1.out.alloc H1.out.size (.cells #[.slice A0 n0 c0, .bool vd, .int .i64 rd, .string (bs rn)] 113))
  generalize w1.alloc (.cells #[.slice A0 n0 c0, .bool vd, .int .i64 rd, .string (bs rn)] 113) = W at *
  clear B1 H1
  go_cut [1, 2, 32] (fun v1 v2 v32 wr => v1 = .bool b ∧ v2 = .pointer (some ⟨w.heap.size, 0, none⟩) ∧ v32 = .bool (!(e1 == 0) || (!mb || ((f0.toList == ([60, 105, 110, 105, 116, 62] : List UInt8)) && !vd))) ∧ Hid (wr.heap[w.heap.size]? = some (.cells #[.string f0, .string f1, .int .i64 f2, .int .i64 f3, .int .i64 f4, .slice A l.length c] 51 (0, 0))) ∧ Hid (Below w.heap.size w wr))
  case first =>
    by_cases h1 : e1 = 0
    · subst h1
      have q0 : W.cell? ⟨w.heap.size, 0, none⟩ = some (.string f0) := (blk_cell B2.out 0).trans rfl
      go_wp2_with fail
      refine (CM.out _).mono ?_
      rintro e w3 ⟨rfl, hb3⟩
      have B3 := Lib.hid (blk_below B2.out hb3)
      have H3 := Lib.hid (H2.out.trans (hb3.mono H2.out.size))
      have r1 : w3.cell? ⟨w1.heap.size, 1, none⟩ = some (.bool vd) := pw_cell_below hb3 ((blk_cell D2.out 1).trans rfl)
      have q0 : w3.cell? ⟨w.heap.size, 0, none⟩ = some (.string f0) := (blk_cell B3.out 0).trans rfl
      clear hb3 B2 H2 D2
      cases mb with
      | false =>
        go_wp2
        go_meet
        case rel => exact ⟨rfl, rfl, by simp, B3, H3⟩
      | true =>
        cases hi : (f0.toList == ([60, 105, 110, 105, 116, 62] : List UInt8)) with
        | false =>
          go_wp2
          go_meet
          case rel => exact ⟨rfl, rfl, by rw [hi]; cases vd <;> rfl, B3, H3⟩
        | true =>
          go_wp2
          go_meet
          case rel => exact ⟨rfl, rfl, by rw [hi]; cases vd <;> rfl, B3, H3⟩
    · have hne : (e1 != 0) = true := bne_iff_ne.2 h1
      have he : (e1 == 0) = false := beq_eq_false_iff_ne.2 h1
      go_wp2
      go_meet
      case rel => exact ⟨rfl, rfl, by rw [he]; rfl, B2, H2⟩
  case rest =>
    clear B2 D2 H2
    obtain ⟨rfl, rfl, rfl, B2, H2⟩ := hcut
    cases hbad : (!(e1 == 0) || (!mb || ((f0.toList == ([60, 105, 110, 105, 116, 62] : List UInt8)) && !vd))) with
    | true =>
      rw [hbad] at hr
      have hr := hr.out
      simp at hr
      subst hr
      go_wp2
      go_ret
      exact ⟨rfl, H2.out⟩
    | false =>
      have he1 : e1 = 0 := by
        cases h : (e1 == 0) with
        | true => exact beq_iff_eq.1 h
        | false => rw [h] at hbad; simp at hbad
      rw [hbad, Bool.not_false, Bool.true_and] at hr
      clear hbad hn CM
      have q0 : wc.cell? ⟨w.heap.size, 0, none⟩ = some (.string f0) := (blk_cell B2.out 0).trans rfl
      have q1 : wc.cell? ⟨w.heap.size, 1, none⟩ = some (.string f1) := (blk_cell B2.out 1).trans rfl
      have q2 : wc.cell? ⟨w.heap.size, 2, none⟩ = some (.int .i64 f2) := (blk_cell B2.out 2).trans rfl
      have q3 : wc.cell? ⟨w.heap.size, 3, none⟩ = some (.int .i64 f3) := (blk_cell B2.out 3).trans rfl
      have q4 : wc.cell? ⟨w.heap.size, 4, none⟩ = some (.int .i64 f4) := (blk_cell B2.out 4).trans rfl
      have q5 : wc.cell? ⟨w.heap.size, 5, none⟩ = some (.slice A l.length c) := (blk_cell B2.out 5).trans rfl
      go_wp2_with fail
      refine (CF.out _).mono ?_
      rintro e w4 ⟨rfl, rfl⟩
      by_cases hm : mf = 0
      · subst hm
        rw [beq_self_eq_true, Bool.true_and] at hr
        by_cases ha : Go.bits .and .i64 f2 1024 = 0
        · have ha2 : (Go.bits .and .i64 f2 1024 != 0) = false := bne_eq_false_iff_eq.2 ha
          rw [if_pos ha] at hr
          have C3 := Lib.hid (CW.out w4 he1)
          clear ha CW he1
          go_wp2_with fail
          refine C3.out.mono ?_
          rintro e w5 ⟨rfl, hb5⟩
          have B5 := Lib.hid (blk_below B2.out hb5)
          have H5 := Lib.hid (H2.out.trans (hb5.mono H2.out.size))
          have C4 := Lib.hid (CC.out w5 H5.out)
          clear hb5 B2 H2 q0 q1 q2 q3 q4 q5 C3 CC
          have q3 : w5.cell? ⟨w.heap.size, 3, none⟩ = some (.int .i64 f3) := (blk_cell B5.out 3).trans rfl
          have q4 : w5.cell? ⟨w.heap.size, 4, none⟩ = some (.int .i64 f4) := (blk_cell B5.out 4).trans rfl
          have q5 : w5.cell? ⟨w.heap.size, 5, none⟩ = some (.slice A l.length c) := (blk_cell B5.out 5).trans rfl
          cases d1 : decide (wd ≤ f3) with
          | false =>
            rw [d1] at hr
            have hr := hr.out
            simp at hr
            subst hr
            go_wp2
            go_ret
            exact ⟨rfl, H5.out⟩
          | true =>
            rw [d1, Bool.true_and] at hr
            cases d2 : decide (f3 ≤ 40) with
            | false =>
              rw [d2] at hr
              have hr := hr.out
              simp at hr
              subst hr
              go_wp2
              go_ret
              exact ⟨rfl, H5.out⟩
            | true =>
              rw [d2, Bool.true_and] at hr
              cases d3 : decide (0 ≤ f4) with
              | false =>
                rw [d3] at hr
                have hr := hr.out
                simp at hr
                subst hr
                go_wp2
                go_ret
                exact ⟨rfl, H5.out⟩
              | true =>
                rw [d3, Bool.true_and] at hr
                cases d4 : decide (f4 ≤ 40) with
                | false =>
                  rw [d4] at hr
                  have hr := hr.out
                  simp at hr
                  subst hr
                  go_wp2
                  go_ret
                  exact ⟨rfl, H5.out⟩
                | true =>
                  rw [d4, Bool.true_and] at hr
                  go_wp2_with fail
                  refine C4.out.mono ?_
                  rintro e w6 ⟨rfl, hb6⟩
                  have H6 := Lib.hid (H5.out.trans (hb6.mono H5.out.size))
                  clear C4 hb6 H5 B5 q3 q4 q5
                  cases cb
                  all_goals
                    have hr := hr.out
                    subst hr
                    go_wp2
                    go_ret
                    exact ⟨rfl, H6.out⟩
        · have ha2 : (Go.bits .and .i64 f2 1024 != 0) = true := bne_iff_ne.2 ha
          rw [if_neg ha] at hr
          clear ha CW CC CF he1
          cases d1 : (f3 == 0) with
          | false =>
            rw [d1] at hr
            have hr := hr.out
            simp at hr
            subst hr
            go_wp2
            go_ret
            exact ⟨rfl, H2.out⟩
          | true =>
            rw [d1, Bool.true_and] at hr
            cases d2 : (f4 == 0) with
            | false =>
              rw [d2] at hr
              have hr := hr.out
              simp at hr
              subst hr
              go_wp2
              go_ret
              exact ⟨rfl, H2.out⟩
            | true =>
              rw [d2, Bool.true_and] at hr
              go_wp2
              go_ret
              exact ⟨by rw [← hr.out]; rfl, H2.out⟩
      · have hne : (mf != 0) = true := bne_iff_ne.2 hm
        rw [show (mf == 0) = false from beq_eq_false_iff_ne.2 hm] at hr
        have hr := hr.out
        simp at hr
        subst hr
        clear hm
        go_wp2
        go_ret
        exact ⟨rfl, H2.out⟩
end Go.Proofs.YtmlifggklaeieaaDoor.Pt
