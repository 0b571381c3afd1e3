/- Lemmas and contracts for the statement of PwAccessNil: joined by program out of this session's texts. -/
import Derived.Test.YtmlifggklaeieaaDoorBdPwAccessNil1
import Derived.Maps.OwnSet
import Derived.Deep.DrawnRows
import Derived.Deep.RegionHeld3
import Derived.Deep.DeepCutAuto
import Derived.Deep.RegionWith
import Derived.Outline
import Derived.Maps.Own
import Derived.Deep.QuietTactic
import Derived.BigQuiet
/- A world of classes, as it lies in memory. -/
namespace Go.Proofs.YtmlifggklaeieaaDoor.Hi
open Go Go.RowKit Go.Proofs.YtmlifggklaeieaaDoorW.PrintWords Go.Proofs.YtmlifggklaeieaaDoorW.PrintLast Go.Proofs.YtmlifggklaeieaaDoorW.PrintMore Go.Proofs.YtmlifggklaeieaaDoor.Pt
set_option linter.unusedVariables false
set_option linter.unusedSimpArgs false

/-- An entry: a class, what stands above it, how deep it lies, the interfaces above it. -/
structure Ent where
  c : S44
  above : Int
  depth : Int
  clo : List Int
def kE : Kd Ent := Kd.iso (Kd.pair k44 (Kd.pair (Kd.int .i64) (Kd.pair (Kd.int .i64) (Kd.slice 3 (Kd.int .i64))))) (fun x : Ent => (x.c, x.above, x.depth, x.clo))
theorem kE_open {w : World} {x : Ent} {cs : List Value} (h : kE.K w x cs) : ∃ A2 c2 A5 c5 A8 c8, cs = [.string x.c.f0, .string x.c.f1, .slice A2 x.c.f2.length c2, .int .i64 x.c.f3, .int .i64 x.c.f4, .slice A5 x.c.f5.length c5, .int .i64 x.above, .int .i64 x.depth, .slice A8 x.clo.length c8] ∧ x.c.f2.length ≤ c2 ∧ Kd.string.C w A2 x.c.f2.length x.c.f2 ∧ x.c.f5.length ≤ c5 ∧ k51.C w A5 x.c.f5.length x.c.f5 ∧ x.clo.length ≤ c8 ∧ (Kd.int .i64).C w A8 x.clo.length x.clo := by
  obtain ⟨_, _, rfl, hc, ⟨_, _, rfl, rfl, ⟨_, _, rfl, rfl, ⟨A8, c8, rfl, l8, g8⟩⟩⟩⟩ := h
  obtain ⟨A2, c2, A5, c5, rfl, l2, g2, l5, g5⟩ := k44_open hc
  exact ⟨A2, c2, A5, c5, A8, c8, rfl, l2, g2, l5, g5, l8, g8⟩
theorem kE_mkM (w : World) (base : Nat) (ok : Nat → Prop) (x : Ent) {v2 v5 v8 : Value} (g2 : Kd.string.R 9 w base ok v2 x.c.f2) (g5 : k51.R 51 w base ok v5 x.c.f5) (g8 : (Kd.int .i64).R 3 w base ok v8 x.clo) :
    kE.M w base ok x [.string x.c.f0, .string x.c.f1, v2, .int .i64 x.c.f3, .int .i64 x.c.f4, v5, .int .i64 x.above, .int .i64 x.depth, v8] :=
  ⟨[.string x.c.f0, .string x.c.f1, v2, .int .i64 x.c.f3, .int .i64 x.c.f4, v5], [.int .i64 x.above, .int .i64 x.depth, v8], rfl, k44_mkM w base ok x.c g2 g5, ⟨[.int .i64 x.above], [.int .i64 x.depth, v8], rfl, rfl, ⟨[.int .i64 x.depth], [v8], rfl, rfl, ⟨v8, rfl, g8⟩⟩⟩⟩
def ptrE (p : Nat) : Value := .pointer (some ⟨p, 0, none⟩)
def kP : Kd Nat := Kd.scalar ptrE (fun _ => rfl)
/-- What the map of names says. -/
def MapSays (D : DataW Unit) (names : List ByteArray) : Prop := Maps.IsMap D ∧ ∀ s : ByteArray,
  (Maps.has D (.string s.data.toList) = true ↔ s ∈ names) ∧ ∀ i : Nat, names[i]? = some s → D.atKey (.string s.data.toList) (.lit (.int .i64 0)) = .lit (.int .i64 i)
theorem str_inj {s t : ByteArray} (h : Lit.string s.data.toList = Lit.string t.data.toList) : s = t := by
  injection h with h
  cases s; cases t
  simp at h
  rw [ByteArray.mk.injEq]
  exact h
theorem MapSays.nil : MapSays (.map []) [] := ⟨⟨[], rfl⟩, fun s => ⟨by simp [Maps.has], fun i h => by simp at h⟩⟩
theorem MapSays.put {D : DataW Unit} {names : List ByteArray} (h : MapSays D names) (s : ByteArray) (hs : s ∉ names) : MapSays (D.put (.string s.data.toList) (.lit (.int .i64 (names.length : Nat)))) (names ++ [s]) := by
  obtain ⟨hm, h⟩ := h
  have hk : WideAt.IsKeyLit (.string s.data.toList) := by simp [WideAt.IsKeyLit]
  refine ⟨?_, fun t => ?_⟩
  · obtain ⟨es, rfl⟩ := hm
    exact ⟨_, rfl⟩
  · obtain ⟨h1, h2⟩ := h t
    by_cases ht : t = s
    · subst ht
      refine ⟨by rw [Maps.has_put_same hm hk]; simp, fun i hi => ?_⟩
      rw [Maps.atKey_put_same hm hk]
      have : ¬ i < names.length := fun hl => by
        rw [List.getElem?_append_left hl] at hi
        exact hs (List.mem_of_getElem? hi)
      rw [List.getElem?_append_right (by omega)] at hi
      have : i - names.length = 0 := by
        cases h0 : i - names.length with
        | zero => rfl
        | succ k => rw [h0] at hi; simp at hi
      obtain rfl : i = names.length := by omega
      rfl
    · have hne : Lit.string t.data.toList ≠ Lit.string s.data.toList := fun e => ht (str_inj e)
      refine ⟨by rw [Maps.has_put_other hne, h1]; simp [ht], fun i hi => ?_⟩
      rw [Maps.atKey_put_other hne]
      by_cases hl : i < names.length
      · rw [List.getElem?_append_left hl] at hi
        exact h2 i hi
      · rw [List.getElem?_append_right (by omega)] at hi
        cases h0 : i - names.length with
        | zero => rw [h0] at hi; simp at hi; exact absurd hi.symm ht
        | succ k => rw [h0] at hi; simp at hi
/-- The world at block g, its row v, its map's block mb, its entries' blocks ps. -/
structure WIn (w : World) (base g : Nat) (v : Value) (mb : Nat) (ps : List Nat) (es : List Ent) : Prop where
  hg : base ≤ g
  blk : w.heap[g]? = some (.cells #[v, .map (some mb)] 88 (0, 0))
  row : Kd.R kP 72 w base (fun _ => True) v ps
  len : ps.length = es.length
  ent : ∀ (j : Nat) (x : Ent) (p : Nat), es[j]? = some x → ps[j]? = some p → base ≤ p ∧ ∃ cells, w.heap[p]? = some (.cells cells 77 (0, 0)) ∧ kE.M w base (fun _ => True) x cells.toList
  mbl : base ≤ mb
  map : ∃ D : DataW Unit, w.ownsMap Tryd.prog 9 (plainElem Tryd.prog 3) mb es.length D ∧ MapSays D (es.map (·.c.f0))
/-- What stays of a world that other code leaves alone. -/
theorem WIn.below {w w1 : World} {base g : Nat} {v : Value} {mb : Nat} {ps : List Nat} {es : List Ent} (h : WIn w base g v mb ps es) (hb : Below w.heap.size w w1) : WIn w1 base g v mb ps es := by
  refine ⟨h.hg, blk_below h.blk hb, ?_, h.len, fun j x p hx hp => ?_, h.mbl, ?_⟩
  · exact Kd.R_below h.row hb
  · obtain ⟨h1, cells, h2, h3⟩ := h.ent j x p hx hp
    exact ⟨h1, cells, blk_below h2 hb, Kd.M_below h3 hb⟩
  · obtain ⟨D, h1, h2⟩ := h.map
    obtain ⟨es1, clock, hbk, F, hs, rfl⟩ := h1
    exact ⟨_, ⟨es1, clock, blk_below hbk hb, F, hs, rfl⟩, h2⟩
theorem WIn.lower {w : World} {base base' g : Nat} {v : Value} {mb : Nat} {ps : List Nat} {es : List Ent} (h : WIn w base g v mb ps es) (hb : base' ≤ base) : WIn w base' g v mb ps es :=
  ⟨Nat.le_trans hb h.hg, h.blk, Kd.R_lower h.row hb, h.len, fun j x p hx hp => by
    obtain ⟨h1, cells, h2, h3⟩ := h.ent j x p hx hp
    exact ⟨Nat.le_trans hb h1, cells, h2, Kd.M_lower _ hb h3⟩, Nat.le_trans hb h.mbl, h.map⟩
end Go.Proofs.YtmlifggklaeieaaDoor.Hi

/- hier.World.at: the entry of a number. -/
namespace Go.Proofs.YtmlifggklaeieaaDoor.Hi
open Go Go.RowKit Go.Proofs.YtmlifggklaeieaaDoorW.PrintWords Go.Proofs.YtmlifggklaeieaaDoorW.PrintLast Go.Proofs.YtmlifggklaeieaaDoorW.PrintMore Go.Proofs.YtmlifggklaeieaaDoor.Pt
set_option linter.unusedVariables false
set_option linter.unusedSimpArgs false
set_option maxHeartbeats 2000000

/-- The entry of a number, or nil. -/
def atP (ps : List Nat) (id : Int) : Value := if 0 ≤ id ∧ id < ps.length then ptrE (ps.getD id.toNat 0) else .pointer none
theorem at_nil (id : Int) (w : World) :
    Calls Tryd.prog 32 #[.pointer none, .int .i64 id] w fun e w' => e = .returned (.pointer none) ∧ Below w.heap.size w w' := by
  go_enter Tryd.func32, Tryd.ntmps32
  go_wp2
  refine bodyPost_ret (v := .pointer none) (by simp [results, Tryd.results32, go_sem]) rfl ⟨rfl, ?_⟩
  exact Below.refl _ _
theorem at_any (w : World) (base g : Nat) (v : Value) (mb : Nat) (ps : List Nat) (es : List Ent) (h : WIn w base g v mb ps es) (id : Int) :
    Calls Tryd.prog 32 #[.pointer (some ⟨g, 0, none⟩), .int .i64 id] w fun e w' => e = .returned (atP ps id) ∧ Below w.heap.size w w' := by
  obtain ⟨A, c, rfl, hlc, RC⟩ := Kd.R_reads h.row
  have q0 : w.cell? ⟨g, 0, none⟩ = some (.slice A ps.length c) := (blk_cell h.blk 0).trans rfl
  have k0 := blk_frozen h.blk 0
  by_cases h0 : 0 ≤ id
  · by_cases h1 : id < ps.length
    · obtain ⟨ad, cc, rfl, hcl, hK, hcell⟩ := Kd.C_get RC 0 id h0 h1
      obtain rfl : cc = [ptrE (ps.getD id.toNat 0)] := hK
      have hc := hcell 0 _ rfl
      have hlt : decide (id < 0) = false := decide_eq_false (by omega)
      have hge : decide (id ≥ (ps.length : Int)) = false := decide_eq_false (by omega)
      have HA : Hid (atP ps id = ptrE (ps.getD id.toNat 0)) := Lib.hid (if_pos ⟨h0, h1⟩)
      rw [show kP.sz = 1 from rfl] at hc
      rw [Nat.mul_one, Nat.add_zero] at hc
      clear hcell RC hcl
      go_enter Tryd.func32, Tryd.ntmps32
      go_wp2
      exact bodyPost_ret (v := ptrE ps[id.toNat]) (by simp [results, Tryd.results32, go_sem]) rfl ⟨by rw [HA.out, List.getD_eq_getElem?_getD, List.getElem?_eq_getElem (by omega)]; rfl, Below.refl _ _⟩
    · have hlt : decide (id < 0) = false := decide_eq_false (by omega)
      have hge : decide (id ≥ (ps.length : Int)) = true := decide_eq_true (by omega)
      have HA : Hid (atP ps id = .pointer none) := Lib.hid (if_neg (by omega))
      clear RC
      go_enter Tryd.func32, Tryd.ntmps32
      go_wp2
      exact bodyPost_ret (v := .pointer none) (by simp [results, Tryd.results32, go_sem]) rfl ⟨by rw [HA.out], Below.refl _ _⟩
  · have hlt : decide (id < 0) = true := decide_eq_true (by omega)
    have HA : Hid (atP ps id = .pointer none) := Lib.hid (if_neg (by omega))
    clear RC
    go_enter Tryd.func32, Tryd.ntmps32
    go_wp2
    exact bodyPost_ret (v := .pointer none) (by simp [results, Tryd.results32, go_sem]) rfl ⟨by rw [HA.out], Below.refl _ _⟩
end Go.Proofs.YtmlifggklaeieaaDoor.Hi

/- hier.World.Class: the class of a number. -/
namespace Go.Proofs.YtmlifggklaeieaaDoor.Hi
open Go Go.RowKit Go.Proofs.YtmlifggklaeieaaDoorW.PrintWords Go.Proofs.YtmlifggklaeieaaDoorW.PrintLast Go.Proofs.YtmlifggklaeieaaDoorW.PrintMore Go.Proofs.YtmlifggklaeieaaDoor.Pt
set_option linter.unusedVariables false
set_option linter.unusedSimpArgs false
set_option maxHeartbeats 2000000

def zE : Ent := ⟨z44, 0, 0, []⟩
/-- The class of a number, and the error. -/
def classF (es : List Ent) (id : Int) : S44 × Int := if 0 ≤ id ∧ id < es.length then ((es.getD id.toNat zE).c, 0) else (z44, 3)
/-- A class that can be copied. -/
def Small (c : S44) : Prop := c.f2.length * 16 ≤ 140737488355328 ∧ Short c.f5
/-- A class as a value, its rows the call's own. -/
def OwnC (w : World) (base : Nat) (v : Value) (c : S44) : Prop := ∃ v2 v5, v = .agg #[.string c.f0, .string c.f1, v2, .int .i64 c.f3, .int .i64 c.f4, v5] ∧ Kd.R Kd.string 9 w base (fun _ => True) v2 c.f2 ∧ Kd.R k51 51 w base (fun _ => True) v5 c.f5
theorem WIn.at_ {w : World} {base g : Nat} {v : Value} {mb : Nat} {ps : List Nat} {es : List Ent} (h : WIn w base g v mb ps es) {id : Int} (h0 : 0 ≤ id) (h1 : id < es.length) :
    ∃ p cells, atP ps id = ptrE p ∧ w.heap[p]? = some (.cells cells 77 (0, 0)) ∧ kE.K w (es.getD id.toNat zE) cells.toList := by
  have hl := h.len
  have hx : es[id.toNat]? = some (es.getD id.toNat zE) := by
    rw [List.getD_eq_getElem?_getD, List.getElem?_eq_getElem (by omega)]; rfl
  have hp : ps[id.toNat]? = some (ps.getD id.toNat 0) := by
    rw [List.getD_eq_getElem?_getD, List.getElem?_eq_getElem (by omega)]; rfl
  obtain ⟨_, cells, h2, h3⟩ := h.ent _ _ _ hx hp
  exact ⟨ps.getD id.toNat 0, cells, if_pos ⟨h0, by omega⟩, h2, Kd.K_of_M _ h3⟩
/-- A class stored at a block, field by field. -/
abbrev set6 (W : World) (g : Nat) (u0 u1 u2 u3 u4 u5 : Value) : World := ((((((W.setCell ⟨g, 0, none⟩ u0).setCell ⟨g, 1, none⟩ u1).setCell ⟨g, 2, none⟩ u2).setCell ⟨g, 3, none⟩ u3).setCell ⟨g, 4, none⟩ u4).setCell ⟨g, 5, none⟩ u5)
theorem blk_set6 {W : World} {g t : Nat} {x0 x1 x2 x3 x4 x5 : Value} (h : W.heap[g]? = some (.cells #[x0, x1, x2, x3, x4, x5] t (0, 0))) (u0 u1 u2 u3 u4 u5 : Value) : (set6 W g u0 u1 u2 u3 u4 u5).heap[g]? = some (.cells #[u0, u1, u2, u3, u4, u5] t (0, 0)) :=
  (blk_set (blk_set (blk_set (blk_set (blk_set (blk_set h 0 u0) 1 u1) 2 u2) 3 u3) 4 u4) 5 u5).trans rfl
theorem R_set6 {α : Type} {d : Kd α} {e : Nat} {W : World} {base : Nat} {ok : Nat → Prop} {v : Value} {xs : List α} (h : d.R e W base ok v xs) {g t : Nat} {cells : Array Value} (hb : W.heap[g]? = some (.cells cells t (0, 0))) (ht : ∀ q, q ∈ e :: d.E → q ≠ t) (u0 u1 u2 u3 u4 u5 : Value) : d.R e (set6 W g u0 u1 u2 u3 u4 u5) base ok v xs :=
  Kd.R_set (Kd.R_set (Kd.R_set (Kd.R_set (Kd.R_set (Kd.R_set h hb ht 0 u0) (blk_set hb 0 u0) ht 1 u1) (blk_set (blk_set hb 0 u0) 1 u1) ht 2 u2) (blk_set (blk_set (blk_set hb 0 u0) 1 u1) 2 u2) ht 3 u3) (blk_set (blk_set (blk_set (blk_set hb 0 u0) 1 u1) 2 u2) 3 u3) ht 4 u4) (blk_set (blk_set (blk_set (blk_set (blk_set hb 0 u0) 1 u1) 2 u2) 3 u3) 4 u4) ht 5 u5
theorem below_set6 {W0 W : World} {base g : Nat} (h : Below base W0 W) (hg : base ≤ g) (u0 u1 u2 u3 u4 u5 : Value) : Below base W0 (set6 W g u0 u1 u2 u3 u4 u5) :=
  (((((h.setCell (p := ⟨g, 0, none⟩) hg u0).setCell (p := ⟨g, 1, none⟩) hg u1).setCell (p := ⟨g, 2, none⟩) hg u2).setCell (p := ⟨g, 3, none⟩) hg u3).setCell (p := ⟨g, 4, none⟩) hg u4).setCell (p := ⟨g, 5, none⟩) hg u5
theorem class_any (w : World) (base g : Nat) (v : Value) (mb : Nat) (ps : List Nat) (es : List Ent) (h : WIn w base g v mb ps es) (hs : ∀ x ∈ es, Small x.c) (id : Int) :
    Calls Tryd.prog 19 #[.pointer (some ⟨g, 0, none⟩), .int .i64 id] w fun e w' => ∃ vc, e = .returned (.tuple #[vc, .int .i64 (classF es id).2]) ∧ OwnC w' w.heap.size vc (classF es id).1 ∧ Below w.heap.size w w' := by
  have hl := h.len
  have B0 := blk_new w (.cells #[.string ⟨#[]⟩, .string ⟨#[]⟩, .slice none 0 0, .int .i64 0, .int .i64 0, .slice none 0 0] 44)
  have BB := (Below.refl w.heap.size w).alloc (Nat.le_refl _) (.cells #[.string ⟨#[]⟩, .string ⟨#[]⟩, .slice none 0 0, .int .i64 0, .int .i64 0, .slice none 0 0] 44)
  have h' := h.below (BB.mono (Nat.le_refl _))
  have CA := Lib.hid (at_any _ base g v mb ps es h' id)
  have hsz : w.heap.size ≤ (w.alloc (.cells #[.string ⟨#[]⟩, .string ⟨#[]⟩, .slice none 0 0, .int .i64 0, .int .i64 0, .slice none 0 0] 44)).heap.size := BB.size
  replace B0 := Lib.hid B0
  replace BB := Lib.hid BB
  replace hsz := Lib.hid hsz
  by_cases hin : 0 ≤ id ∧ id < es.length
  · obtain ⟨p, cells, hp, hblk, hK⟩ := h'.at_ hin.1 hin.2
    have hc : classF es id = ((es.getD id.toNat zE).c, 0) := if_pos hin
    have hx : es.getD id.toNat zE ∈ es := by
      rw [List.getD_eq_getElem?_getD, List.getElem?_eq_getElem (by omega)]
      exact List.getElem_mem _
    have sm := Lib.hid (hs _ hx)
    generalize es.getD id.toNat zE = x at *
    obtain ⟨A2, c2, A5, c5, A8, c8, hcs, l2, g2, l5, g5, l8, g8⟩ := kE_open hK
    obtain rfl : cells = #[.string x.c.f0, .string x.c.f1, .slice A2 x.c.f2.length c2, .int .i64 x.c.f3, .int .i64 x.c.f4, .slice A5 x.c.f5.length c5, .int .i64 x.above, .int .i64 x.depth, .slice A8 x.clo.length c8] := Array.toList_inj.1 hcs
    rw [hp] at CA
    rw [hc]
    replace hblk := Lib.hid hblk
    replace g2 := Lib.hid g2
    replace g5 := Lib.hid g5
    clear hK hcs g8 h h' hc hp hx hs
    go_enter Tryd.func19, Tryd.ntmps19
    go_wp2_with fail
    refine CA.out.mono ?_
    rintro e w1 ⟨rfl, hb1⟩
    have D0 := blk_below B0.out hb1
    have DP := blk_below hblk.out hb1
    have BB1 := Lib.hid (BB.out.trans (hb1.mono hsz.out))
    have CC := Lib.hid (copied_any x.c.f0 x.c.f1 A2 c2 x.c.f2 x.c.f3 x.c.f4 A5 c5 x.c.f5 w1 (Kd.C_below g2.out hb1) (Kd.C_below g5.out hb1) sm.out.1 sm.out.2)
    have p0 : w1.cell? ⟨p, 0, none⟩ = some (.string x.c.f0) := (blk_cell DP 0).trans rfl
    have p1 : w1.cell? ⟨p, 1, none⟩ = some (.string x.c.f1) := (blk_cell DP 1).trans rfl
    have p2 : w1.cell? ⟨p, 2, none⟩ = some (.slice A2 x.c.f2.length c2) := (blk_cell DP 2).trans rfl
    have p3 : w1.cell? ⟨p, 3, none⟩ = some (.int .i64 x.c.f3) := (blk_cell DP 3).trans rfl
    have p4 : w1.cell? ⟨p, 4, none⟩ = some (.int .i64 x.c.f4) := (blk_cell DP 4).trans rfl
    have p5 : w1.cell? ⟨p, 5, none⟩ = some (.slice A5 x.c.f5.length c5) := (blk_cell DP 5).trans rfl
    have hsz1 := Lib.hid (Nat.le_trans hsz.out hb1.size)
    replace D0 := Lib.hid D0
    clear DP hb1 CA hsz BB B0 hblk g2 g5 sm
    rw [show ptrE p = .pointer (some ⟨p, 0, none⟩) from rfl]
    go_wp2_with fail
    refine CC.out.mono ?_
    rintro e w2 ⟨v2, v5, rfl, R2, R5, hb2⟩
    have D := blk_below D0.out hb2
    have BB2 := BB1.out.trans (hb2.mono hsz1.out)
    have q0 : w2.cell? ⟨w.heap.size, 0, none⟩ = some (.string ⟨#[]⟩) := (blk_cell D 0).trans rfl
    have q1 : w2.cell? ⟨w.heap.size, 1, none⟩ = some (.string ⟨#[]⟩) := (blk_cell D 1).trans rfl
    have q2 : w2.cell? ⟨w.heap.size, 2, none⟩ = some (.slice none 0 0) := (blk_cell D 2).trans rfl
    have q3 : w2.cell? ⟨w.heap.size, 3, none⟩ = some (.int .i64 0) := (blk_cell D 3).trans rfl
    have q4 : w2.cell? ⟨w.heap.size, 4, none⟩ = some (.int .i64 0) := (blk_cell D 4).trans rfl
    have q5 : w2.cell? ⟨w.heap.size, 5, none⟩ = some (.slice none 0 0) := (blk_cell D 5).trans rfl
    have k0 := blk_frozen D 0
    have k1 := blk_frozen D 1
    have k2 := blk_frozen D 2
    have k3 := blk_frozen D 3
    have k4 := blk_frozen D 4
    have k5 := blk_frozen D 5
    have T2 := Lib.hid (R_set6 (Kd.R_lower R2 hsz1.out) D (by decide) (.string x.c.f0) (.string x.c.f1) v2 (.int .i64 x.c.f3) (.int .i64 x.c.f4) v5)
    have T5 := Lib.hid (R_set6 (Kd.R_lower R5 hsz1.out) D (by decide) (.string x.c.f0) (.string x.c.f1) v2 (.int .i64 x.c.f3) (.int .i64 x.c.f4) v5)
    have TB := Lib.hid (below_set6 BB2 (g := w.heap.size) (Nat.le_refl _) (.string x.c.f0) (.string x.c.f1) v2 (.int .i64 x.c.f3) (.int .i64 x.c.f4) v5)
    have TX := Lib.hid (blk_set6 D (.string x.c.f0) (.string x.c.f1) v2 (.int .i64 x.c.f3) (.int .i64 x.c.f4) v5)
    obtain ⟨A2', c2', rfl⟩ := Kd.R_slice R2
    obtain ⟨A5', c5', rfl⟩ := Kd.R_slice R5
    clear D D0 BB2 R2 R5 CC hb2
    go_wp2
    exact bodyPost_ret (results_ct rfl _ _ w.heap.size 44 _ (0, 0) _ rfl TX.out Tryd.underlying44 rfl (by kernel_rfl)) rfl ⟨_, rfl, ⟨_, _, rfl, T2.out, T5.out⟩, TB.out⟩
  · have hp : atP ps id = .pointer none := if_neg (by omega)
    have hc : classF es id = (z44, 3) := if_neg hin
    rw [hp] at CA
    rw [hc]
    clear h h' hc hp hs
    go_enter Tryd.func19, Tryd.ntmps19
    go_wp2_with fail
    refine CA.out.mono ?_
    rintro e w2 ⟨rfl, hb2⟩
    have D := blk_below B0.out hb2
    have BB2 := BB.out.trans (hb2.mono hsz.out)
    have q0 : w2.cell? ⟨w.heap.size, 0, none⟩ = some (.string ⟨#[]⟩) := (blk_cell D 0).trans rfl
    have q1 : w2.cell? ⟨w.heap.size, 1, none⟩ = some (.string ⟨#[]⟩) := (blk_cell D 1).trans rfl
    have q2 : w2.cell? ⟨w.heap.size, 2, none⟩ = some (.slice none 0 0) := (blk_cell D 2).trans rfl
    have q3 : w2.cell? ⟨w.heap.size, 3, none⟩ = some (.int .i64 0) := (blk_cell D 3).trans rfl
    have q4 : w2.cell? ⟨w.heap.size, 4, none⟩ = some (.int .i64 0) := (blk_cell D 4).trans rfl
    have q5 : w2.cell? ⟨w.heap.size, 5, none⟩ = some (.slice none 0 0) := (blk_cell D 5).trans rfl
    have k0 := blk_frozen D 0
    have k1 := blk_frozen D 1
    have k2 := blk_frozen D 2
    have k3 := blk_frozen D 3
    have k4 := blk_frozen D 4
    have k5 := blk_frozen D 5
    have TB := Lib.hid (below_set6 BB2 (g := w.heap.size) (Nat.le_refl _) (.string ⟨#[]⟩) (.string ⟨#[]⟩) (.slice none 0 0) (.int .i64 0) (.int .i64 0) (.slice none 0 0))
    have TX := Lib.hid (blk_set6 D (.string ⟨#[]⟩) (.string ⟨#[]⟩) (.slice none 0 0) (.int .i64 0) (.int .i64 0) (.slice none 0 0))
    clear D BB2 hb2 CA
    go_wp2
    exact bodyPost_ret (results_ct rfl _ _ w.heap.size 44 _ (0, 0) _ rfl TX.out Tryd.underlying44 rfl (by kernel_rfl)) rfl ⟨_, rfl, ⟨_, _, rfl, Kd.R_nil _ _ _ _ _, Kd.R_nil _ _ _ _ _⟩, TB.out⟩
end Go.Proofs.YtmlifggklaeieaaDoor.Hi

/- What the queries of a world of classes come to: plain functions over the entries. -/
namespace Go.Proofs.YtmlifggklaeieaaDoor.Hi
open Go Go.RowKit Go.Proofs.YtmlifggklaeieaaDoorW.PrintWords Go.Proofs.YtmlifggklaeieaaDoorW.PrintLast Go.Proofs.YtmlifggklaeieaaDoorW.PrintMore Go.Proofs.YtmlifggklaeieaaDoor.Pt
set_option linter.unusedVariables false
set_option linter.unusedSimpArgs false

/-- The entry of a number. -/
def ent (es : List Ent) (i : Int) : Ent := es.getD i.toNat zE
/-- Is it the number of a class? -/
def inB (es : List Ent) (i : Int) : Bool := decide (0 ≤ i ∧ i < es.length)
/-- Is a class an interface? -/
def isI (c : S44) : Bool := Go.bits .and .i64 c.f3 512 != 0
/-- The superclasses stand ahead, and the depths tell how many there are. -/
def Tree (es : List Ent) : Prop := ∀ (i : Nat) (x : Ent), es[i]? = some x → (x.above = -1 ∧ x.depth = 0) ∨ (0 ≤ x.above ∧ x.above < i ∧ x.depth = (ent es x.above).depth + 1)
/-- Up from a class till it is no deeper than d. -/
def climb (es : List Ent) : Nat → Int → Int → Int
  | 0, a, _ => a
  | k + 1, a, d => if (ent es a).depth > d then climb es k (ent es a).above d else a
def extF (es : List Ent) (a b : Int) : Bool :=
  if inB es a && inB es b then (if isI (ent es b).c then (a == b || (ent es a).clo.contains b) else climb es es.length a (ent es b).depth == b) else false
/-- The class, its superclass, and so on. -/
def chainL (es : List Ent) : Nat → Int → List Int
  | 0, _ => []
  | k + 1, a => a :: (if (ent es a).above < 0 then [] else chainL es k (ent es a).above)
/-- The number of a name, and the error. -/
def nameF (es : List Ent) (s : ByteArray) : Int × Int := match (es.map (·.c.f0)).findIdx? (fun t => decide (t = s)) with | some i => ((i : Int), 0) | none => (0, 6)
theorem ent_get {es : List Ent} {i : Nat} {x : Ent} (h : es[i]? = some x) : ent es i = x := by
  simp [ent, List.getD_eq_getElem?_getD, h]
theorem get_ent {es : List Ent} {i : Int} (h0 : 0 ≤ i) (h1 : i < es.length) : es[i.toNat]? = some (ent es i) := by
  rw [ent, List.getD_eq_getElem?_getD, List.getElem?_eq_getElem (by omega)]; rfl
theorem Tree.at_ {es : List Ent} (h : Tree es) {i : Int} (h0 : 0 ≤ i) (h1 : i < es.length) : ((ent es i).above = -1 ∧ (ent es i).depth = 0) ∨ (0 ≤ (ent es i).above ∧ (ent es i).above < i ∧ (ent es i).depth = (ent es (ent es i).above).depth + 1) := by
  rcases h _ _ (get_ent h0 h1) with h | ⟨h2, h3, h4⟩
  · exact .inl h
  · exact .inr ⟨h2, by omega, h4⟩
theorem Tree.depth {es : List Ent} (h : Tree es) : ∀ (n : Nat) (i : Int), i.toNat < n → 0 ≤ i → i < es.length → 0 ≤ (ent es i).depth ∧ (ent es i).depth ≤ i
  | 0, i, h0, _, _ => absurd h0 (by omega)
  | n + 1, i, hn, h0, h1 => by
    rcases h.at_ h0 h1 with ⟨_, hd⟩ | ⟨h2, h3, hd⟩
    · omega
    · have := Tree.depth h n _ (show (ent es i).above.toNat < n by omega) h2 (by omega)
      omega
theorem Tree.depth_ {es : List Ent} (h : Tree es) {i : Int} (h0 : 0 ≤ i) (h1 : i < es.length) : 0 ≤ (ent es i).depth ∧ (ent es i).depth ≤ i := h.depth (i.toNat + 1) i (by omega) h0 h1
/-- The way up stays among the classes; more rounds than the depth come to the same. -/
theorem climb_more {es : List Ent} (h : Tree es) : ∀ (k : Nat) (a d : Int), 0 ≤ a → a < es.length → 0 ≤ d → (ent es a).depth ≤ d + k → ∀ j, climb es (k + j) a d = climb es k a d
  | 0, a, d, h0, h1, hd, hk, j => by
    cases j with
    | zero => rfl
    | succ j =>
      rw [Nat.zero_add]
      show (if (ent es a).depth > d then climb es j (ent es a).above d else a) = a
      rw [if_neg (by omega)]
  | k + 1, a, d, h0, h1, hd, hk, j => by
    rw [show k + 1 + j = (k + j) + 1 by omega, climb, climb]
    by_cases hc : (ent es a).depth > d
    · rw [if_pos hc, if_pos hc]
      rcases h.at_ h0 h1 with ⟨_, hz⟩ | ⟨h2, h3, hz⟩
      · omega
      · exact climb_more h k _ d h2 (by omega) hd (by omega) j
    · rw [if_neg hc, if_neg hc]
end Go.Proofs.YtmlifggklaeieaaDoor.Hi

/- Worlds behind pointers, as the printed texts tell them: the program's world of classes (WOK). -/
namespace Go.Proofs.YtmlifggklaeieaaDoor.Pt
open Go Go.RowKit Go.Proofs.YtmlifggklaeieaaDoor.Hi Go.Proofs.YtmlifggklaeieaaDoorW.PrintWords Go.Proofs.YtmlifggklaeieaaDoorW.PrintLast Go.Proofs.YtmlifggklaeieaaDoorW.PrintMore
set_option linter.unusedVariables false
set_option linter.unusedSimpArgs false

/-- What is known of each class of a world: its sizes. -/
def Fine (x : Ent) : Prop := Small x.c ∧ x.c.f0.size < 4611686018427387904 ∧ x.clo.length ≤ 1000
/-- A block of cells of this type. -/
def TypeAt (w : World) (b t : Nat) : Prop := ∃ cells, w.heap[b]? = some (.cells cells t (0, 0))
theorem TypeAt.below {w w1 : World} {b t : Nat} (h : TypeAt w b t) (hb : Below w.heap.size w w1) : TypeAt w1 b t := by
  obtain ⟨cells, h⟩ := h
  exact ⟨cells, blk_below h hb⟩
theorem TypeAt.alloc {w : World} {b t : Nat} (h : TypeAt w b t) (o : Obj) : TypeAt (w.alloc o) b t := h.below ((Below.refl _ _).alloc (Nat.le_refl _) o)
theorem TypeAt.drewN {w : World} {b t : Nat} (h : TypeAt w b t) (n : Nat) : TypeAt (w.drewN n) b t := h.below (pw_below_drewN (Below.refl _ _) n)
theorem TypeAt.drew {w : World} {b t : Nat} (h : TypeAt w b t) : TypeAt w.drew b t := h.below (below_drew (Below.refl _ _))
theorem TypeAt.setCell {w : World} {b t : Nat} (h : TypeAt w b t) (p : Addr) (u : Value) : TypeAt (w.setCell p u) b t := by
  obtain ⟨cells, h⟩ := h
  by_cases hp : b = p.block
  · subst hp
    refine ⟨if p.spot.isSome = true then cells else cells.setIfInBounds p.off u, ?_⟩
    unfold World.setCell
    show (w.heap.modify p.block _)[p.block]? = _
    rw [Array.getElem?_modify, h]
    simp
  · exact ⟨cells, (Below.heap_setCell w p u b hp).trans h⟩
theorem WIn_setT {w : World} {base g : Nat} {v : Value} {mb : Nat} {ps : List Nat} {es : List Ent} (h : WIn w base g v mb ps es) {b t : Nat} {cells : Array Value} (hb : w.heap[b]? = some (.cells cells t (0, 0)))
    (ht : ∀ q, q ∈ 88 :: 77 :: 72 :: kE.E → q ≠ t) (j : Nat) (u : Value) : WIn (w.setCell ⟨b, j, none⟩ u) base g v mb ps es := by
  refine ⟨h.hg, blk_far (p := ⟨b, j, none⟩) h.blk (blk_ne h.blk hb (ht _ List.mem_cons_self)) u, ?_, h.len, fun i x p hx hp => ?_, h.mbl, ?_⟩
  · exact Kd.R_set h.row hb (fun q hq => ht q (by
      rcases List.mem_cons.1 hq with rfl | hq
      · simp
      · cases hq)) j u
  · obtain ⟨h1, cs, h2, h3⟩ := h.ent i x p hx hp
    exact ⟨h1, cs, blk_far (p := ⟨b, j, none⟩) h2 (blk_ne h2 hb (ht _ (by simp))) u, kE.M_mono (fun _ hk => trivial) (Kd.M_far (p := ⟨b, j, none⟩) (Kd.M_types h3 hb (fun q hq => ht q (by simp [hq]))) (fun _ hk => hk.2) u)⟩
  · obtain ⟨D, h1, h2⟩ := h.map
    obtain ⟨es1, clock, hbk, F, hs, rfl⟩ := h1
    have hne : mb ≠ b := by
      rintro rfl
      rw [hb] at hbk
      cases hbk
    exact ⟨_, ⟨es1, clock, (Below.heap_setCell w ⟨b, j, none⟩ u mb hne).trans hbk, F, hs, rfl⟩, h2⟩
/-- The world of classes at block g. -/
structure WOK (w : World) (g : Nat) (es : List Ent) : Prop where
  inn : ∃ base v mb ps, WIn w base g v mb ps es
  fine : ∀ x ∈ es, Fine x
  tree : Tree es
  len : es.length ≤ 1000
theorem WOK.below {w w1 : World} {g : Nat} {es : List Ent} (h : WOK w g es) (hb : Below w.heap.size w w1) : WOK w1 g es := by
  obtain ⟨⟨base, v, mb, ps, hi⟩, h2, h3, h4⟩ := h
  exact ⟨⟨base, v, mb, ps, hi.below hb⟩, h2, h3, h4⟩
theorem WOK.alloc {w : World} {g : Nat} {es : List Ent} (h : WOK w g es) (o : Obj) : WOK (w.alloc o) g es := h.below ((Below.refl _ _).alloc (Nat.le_refl _) o)
theorem WOK.drewN {w : World} {g : Nat} {es : List Ent} (h : WOK w g es) (n : Nat) : WOK (w.drewN n) g es := h.below (pw_below_drewN (Below.refl _ _) n)
theorem WOK.drew {w : World} {g : Nat} {es : List Ent} (h : WOK w g es) : WOK w.drew g es := h.below (below_drew (Below.refl _ _))
theorem WOK.set {w : World} {g : Nat} {es : List Ent} {b t : Nat} (h : WOK w g es) (hb : TypeAt w b t) (ht : ∀ q, q ∈ 88 :: 77 :: 72 :: kE.E → q ≠ t) (j : Nat) (u : Value) : WOK (w.setCell ⟨b, j, none⟩ u) g es := by
  obtain ⟨⟨base, v, mb, ps, hi⟩, h2, h3, h4⟩ := h
  obtain ⟨cells, hb⟩ := hb
  exact ⟨⟨base, v, mb, ps, WIn_setT hi hb ht j u⟩, h2, h3, h4⟩
theorem WOK.small {w : World} {g : Nat} {es : List Ent} (h : WOK w g es) : ∀ x ∈ es, Small x.c := fun x hx => (h.fine x hx).1
theorem WOK.named {w : World} {g : Nat} {es : List Ent} (h : WOK w g es) : ∀ x ∈ es, Small x.c ∧ x.c.f0.size < 4611686018427387904 := fun x hx => ⟨(h.fine x hx).1, (h.fine x hx).2.1⟩
end Go.Proofs.YtmlifggklaeieaaDoor.Pt

/- hier.World.put's closure: an interface's number joins the closure of the entry that is being laid, if it is not there yet. -/
namespace Go.Proofs.YtmlifggklaeieaaDoor.Hi
open Go Go.RowKit Go.Proofs.YtmlifggklaeieaaDoorW.PrintWords Go.Proofs.YtmlifggklaeieaaDoorW.PrintLast Go.Proofs.YtmlifggklaeieaaDoorW.PrintMore Go.Proofs.YtmlifggklaeieaaDoor.Pt
set_option linter.unusedVariables false
set_option linter.unusedSimpArgs false
set_option maxHeartbeats 2000000
set_option maxRecDepth 100000

def addI (clo : List Int) (id : Int) : List Int := if clo.contains id then clo else clo ++ [id]
theorem contains_R {w : World} {e B : Nat} {ok : Nat → Prop} {v : Value} {clo : List Int} (h : Kd.R (Kd.int .i64) e w B ok v clo) (hl : clo.length ≤ 1000000) (id : Int) :
    Calls Tryd.prog 41 #[v, .int .i64 id] w fun e w' => e = .returned (.bool (clo.contains id)) ∧ w' = w := by
  obtain ⟨A, c, rfl, hc⟩ := own_reads (Kd.own_of_R h)
  rcases Nat.eq_zero_or_pos clo.length with h0 | h0
  · obtain rfl := List.eq_nil_of_length_eq_zero h0
    exact Tryd.slices_Contains_int_empty A c id w
  · obtain ⟨g, cap, eg, _⟩ := Kd.R_form h h0
    injection eg with e1 e2 e3
    subst e1 e3
    have C := Tryd.slices_Contains_int g 0 clo.length c clo id w (Nat.le_refl _) (by omega) (fun j hj => by
      obtain ⟨ad, ea, hx⟩ := hc.2.2 h0
      injection ea with ea
      subst ea
      have := hx j hj
      rw [add_plain] at this
      rwa [Nat.zero_add])
    rwa [List.take_length] at C
theorem info_int : (Tryd.prog.info? 3).map (fun i => (i.zero, i.size, i.bytes)) = some (some (.int .i64 0), ((Kd.int .i64)).sz, 8) := by kernel_rfl
attribute [local go_sem ↓] Go.wp_at_zero Go.wp_at_succ
theorem add_any (w : World) (B pe be : Nat) (x0 x1 x2 x3 x4 x5 x6 x7 v8 : Value) (clo : List Int) (id : Int)
    (hbe : w.heap[be]? = some (.cells #[ptrE pe] 72 (0, 0))) (hpe : w.heap[pe]? = some (.cells #[x0, x1, x2, x3, x4, x5, x6, x7, v8] 77 (0, 0)))
    (h8 : Kd.R (Kd.int .i64) 3 w B (fun _ => True) v8 clo) (hB : B ≤ pe) (hBs : B ≤ w.heap.size) (hl : clo.length ≤ 1000000) :
    Calls Tryd.prog 50 #[.int .i64 id, .pointer (some ⟨be, 0, none⟩)] w fun e w' => e = .returned (.tuple #[]) ∧ ∃ v8', w'.heap[be]? = some (.cells #[ptrE pe] 72 (0, 0)) ∧ w'.heap[pe]? = some (.cells #[x0, x1, x2, x3, x4, x5, x6, x7, v8'] 77 (0, 0)) ∧
      Kd.R (Kd.int .i64) 3 w' B (fun _ => True) v8' (addI clo id) ∧ Below B w w' ∧ ∀ (k : Nat) (o : Obj), w.heap[k]? = some o → k ≠ pe → some k ≠ v8.ownBlock → w'.heap[k]? = some o := by
  obtain ⟨A8, c8, rfl⟩ := Kd.R_slice h8
  have q0 : w.cell? ⟨be, 0, none⟩ = some (.pointer (some ⟨pe, 0, none⟩)) := (blk_cell hbe 0).trans rfl
  have q8 : w.cell? ⟨pe, 8, none⟩ = some (.slice A8 clo.length c8) := (blk_cell hpe 8).trans rfl
  have k8 := blk_frozen hpe 8
  have C := Lib.hid (contains_R h8 hl id)
  have HB := Lib.hid hbe
  have HP := Lib.hid hpe
  have H8 := Lib.hid h8
  have hlp : pe < w.heap.size := blk_lt hpe
  have hlb : be < w.heap.size := blk_lt hbe
  have hnp := Lib.hid (Kd.R_ne h8 hpe (by decide))
  have hnb := Lib.hid (Kd.R_ne h8 hbe (by decide))
  have hne : be ≠ pe := blk_ne hbe hpe (by decide)
  clear hbe hpe h8
  by_cases hc : clo.contains id = true
  · have HA : Hid (addI clo id = clo) := Lib.hid (if_pos hc)
    rw [hc] at C
    go_enter Tryd.func50, Tryd.ntmps50
    go_wp2_with (go_at_call 41; refine C.out.mono ?_; rintro e w1 ⟨rfl, rfl⟩)
    go_end0
    exact ⟨rfl, _, HB.out, HP.out, by rw [HA.out]; exact H8.out, Below.refl _ _, fun k o h _ _ => h⟩
  · have HA : Hid (addI clo id = clo ++ [id]) := Lib.hid (if_neg hc)
    rw [show clo.contains id = false by simpa using hc] at C
    go_enter Tryd.func50, Tryd.ntmps50
    go_wp2_with (go_at_call 41; refine C.out.mono ?_; rintro e w1 ⟨rfl, rfl⟩)
    go_region_law (first | (refine Kd.R_append_step (Kd.int .i64) (W := w1.drew) (w0 := w1) B (by rfl) (.tmp 14) (.tmp 16) 75 3 (.int .i64 0) 8 (by rfl) Tryd.underlying75 info_int rfl (by decide) (by omega) _ clo id [.int .i64 id] (fun _ => True) (fun _ => False) (by rfl) (by rfl) rfl (fun _ h => h.elim) (fun _ _ => trivial) (Kd.R_below H8.out (below_drew1 (Below.refl _ _))) (below_drew1 (Below.refl _ _)) hBs (by omega) ?_; intro v1 w2 h1 h2 h3 h4; obtain ⟨A9, c9, rfl⟩ := Kd.R_slice h1; rw [show (clo ++ [id]).length = clo.length + 1 by simp] at h1; replace h1 := Lib.hid h1; replace h2 := Lib.hid h2; replace h3 := Lib.hid h3; have kx := (h3.out.frozen_far ⟨pe, 8, none⟩ (blk_lt HP.out) hnp.out).trans k8; have qb := (h3.out.cell_far ⟨be, 0, none⟩ (blk_lt HB.out) hnb.out).trans q0; have qp := (h3.out.cell_far ⟨pe, 8, none⟩ (blk_lt HP.out) hnp.out).trans q8; clear h4))
    all_goals go_end0
    all_goals exact ⟨rfl, _, blk_far (p := ⟨pe, 8, none⟩) (blk_grown (w := w1.drew) HB.out h3.out hnb.out) hne _, blk_put (blk_grown (w := w1.drew) HP.out h3.out hnp.out) 8 _ rfl, by rw [HA.out]; exact Kd.R_set h1.out (blk_grown (w := w1.drew) HP.out h3.out hnp.out) (by decide) 8 _, h2.out.setCell (p := ⟨pe, 8, none⟩) hB _, fun k o h h1 h2 => (Below.heap_setCell w2 ⟨pe, 8, none⟩ _ k h1).trans ((h3.out.block k (blk_lt (w := w1) h) h2).trans h)⟩
end Go.Proofs.YtmlifggklaeieaaDoor.Hi

/- hier.World.put: a class is laid whose names are found. -/
namespace Go.Proofs.YtmlifggklaeieaaDoor.Hi
open Go Go.RowKit Go.Proofs.YtmlifggklaeieaaDoorW.PrintWords Go.Proofs.YtmlifggklaeieaaDoorW.PrintLast Go.Proofs.YtmlifggklaeieaaDoorW.PrintMore Go.Proofs.YtmlifggklaeieaaDoor.Pt
set_option linter.unusedVariables false
set_option linter.unusedSimpArgs false
set_option maxHeartbeats 2000000
set_option maxRecDepth 100000

def foldI (l acc : List Int) : List Int := l.foldl addI acc
def closF (es : List Ent) (acc : List Int) (ifs : List Int) : List Int := ifs.foldl (fun a i => addI (foldI (ent es i).clo a) i) acc
/-- The entry that put lays. -/
def putE (es : List Ent) (c : S44) (above : Int) (ifs : List Int) : Ent := ⟨c, above, if above ≥ 0 then (ent es above).depth + 1 else 0, closF es (if above ≥ 0 then (ent es above).clo else []) ifs⟩
/-- Numbers of classes, each once. -/
def Rng (n : Nat) (l : List Int) : Prop := l.Nodup ∧ ∀ x ∈ l, 0 ≤ x ∧ x < n
theorem Rng.nil (n : Nat) : Rng n [] := ⟨List.nodup_nil, fun x hx => by cases hx⟩
theorem Rng.add {n : Nat} {l : List Int} (h : Rng n l) {i : Int} (h0 : 0 ≤ i) (h1 : i < n) : Rng n (addI l i) := by
  unfold addI
  split
  · exact h
  · rename_i hc
    have hc : i ∉ l := by simpa using hc
    refine ⟨List.nodup_append.2 ⟨h.1, by simp, fun a ha b hb => ?_⟩, fun x hx => ?_⟩
    · rw [List.mem_singleton.1 hb]
      rintro rfl
      exact hc ha
    · rcases List.mem_append.1 hx with hx | hx
      · exact h.2 x hx
      · rw [List.mem_singleton.1 hx]; exact ⟨h0, h1⟩
theorem Rng.len {n : Nat} : ∀ {l : List Int}, Rng n l → l.length ≤ n := by
  induction n with
  | zero =>
    intro l h
    cases l with
    | nil => simp
    | cons a l => have := h.2 a (by simp); omega
  | succ n ih =>
    intro l h
    have h2 : Rng n (l.erase (n : Int)) := by
      refine ⟨h.1.erase _, fun x hx => ?_⟩
      have h3 := h.2 x (List.mem_of_mem_erase hx)
      have h4 : x ≠ (n : Int) := fun e => by
        subst e
        exact (List.Nodup.not_mem_erase h.1) hx
      omega
    have h5 := ih h2
    have h6 : l.length ≤ (l.erase (n : Int)).length + 1 := by
      rw [List.length_erase]
      split <;> omega
    omega
theorem Rng.fold {n : Nat} : ∀ {ks l : List Int}, Rng n l → (∀ x ∈ ks, 0 ≤ x ∧ x < n) → Rng n (foldI ks l)
  | [], l, h, _ => h
  | k :: ks, l, h, hk => Rng.fold (ks := ks) (h.add (hk k (by simp)).1 (hk k (by simp)).2) (fun x hx => hk x (by simp [hx]))
theorem foldI_take {l acc : List Int} {j : Nat} {x : Int} (h : l[j]? = some x) : foldI (l.take (j + 1)) acc = addI (foldI (l.take j) acc) x := by
  unfold foldI
  rw [List.take_add_one, h, List.foldl_append]
  rfl
theorem closF_take {es : List Ent} {acc ifs : List Int} {j : Nat} {x : Int} (h : ifs[j]? = some x) : closF es acc (ifs.take (j + 1)) = addI (foldI (ent es x).clo (closF es acc (ifs.take j))) x := by
  unfold closF
  rw [List.take_add_one, h, List.foldl_append]
  rfl
theorem Rng.clos {n : Nat} {es : List Ent} (he : ∀ x ∈ es, Rng n x.clo) : ∀ {ifs acc : List Int}, Rng n acc → (∀ i ∈ ifs, 0 ≤ i ∧ i < es.length) → es.length ≤ n → Rng n (closF es acc ifs)
  | [], acc, h, _, _ => h
  | i :: ifs, acc, h, hi, hn => by
    have h1 := hi i (by simp)
    have hm : ent es i ∈ es := List.mem_of_getElem? (get_ent h1.1 h1.2)
    exact Rng.clos he (ifs := ifs) ((h.fold (he _ hm).2).add h1.1 (by omega)) (fun x hx => hi x (by simp [hx])) hn
end Go.Proofs.YtmlifggklaeieaaDoor.Hi

/- A world of classes that grows by an entry: what stays behind the append and the two stores. -/
namespace Go.Proofs.YtmlifggklaeieaaDoor.Hi
open Go Go.RowKit Go.Proofs.YtmlifggklaeieaaDoorW.PrintWords Go.Proofs.YtmlifggklaeieaaDoorW.PrintLast Go.Proofs.YtmlifggklaeieaaDoorW.PrintMore Go.Proofs.YtmlifggklaeieaaDoor.Pt
set_option linter.unusedVariables false
set_option linter.unusedSimpArgs false

/-- A row (of type e) was appended to, and a block of type t was stored into: what is made of neither stays. -/
theorem M_push {α : Type} {d : Kd α} {w w2 : World} {base : Nat} {x : α} {cs : List Value} (h : d.M w base (fun _ => True) x cs) {u : Value} {e size n B : Nat} {inner : List Value} (ho : w.ownsRow B e size u n inner) (hg : w.grownBy w2 u.ownBlock)
    {g t : Nat} {cells : Array Value} (hb : w.heap[g]? = some (.cells cells t (0, 0))) (he : ∀ q, q ∈ d.E → q ≠ e) (ht : ∀ q, q ∈ d.E → q ≠ t) (j : Nat) (z : Value) : d.M (w2.setCell ⟨g, j, none⟩ z) base (fun _ => True) x cs := by
  have h1 : d.M w base (fun k => True ∧ some k ≠ u.ownBlock ∧ k ≠ g) x cs := d.M_mono (fun k hk => ⟨trivial, fun ek => by
    obtain ⟨_, _, _, q, hq, c, hc⟩ := hk
    obtain ⟨c', hc'⟩ := own_typed ho k ek.symm
    rw [hc] at hc'
    injection hc' with hc'
    injection hc' with _ hc'
    exact he q hq hc', fun ek => by
    obtain ⟨_, _, _, q, hq, c, hc⟩ := hk
    subst ek
    rw [hc] at hb
    injection hb with hb
    injection hb with _ hb
    exact ht q hq hb⟩) (d.M_bound h)
  have h2 : d.M (w2.setCell ⟨g, j, none⟩ z) base (fun k => True ∧ some k ≠ u.ownBlock ∧ k ≠ g) x cs := Kd.M_step h1 (fun k hk hlt => (Below.heap_setCell w2 ⟨g, j, none⟩ z k hk.2.2).trans (hg.block k hlt hk.2.1))
  exact d.M_mono (fun _ _ => trivial) h2
theorem WIn.push {w w2 : World} {base g : Nat} {v v' : Value} {mb : Nat} {ps : List Nat} {es : List Ent} (h : WIn w base g v mb ps es) (hg : w.grownBy w2 v.ownBlock) {p : Nat} (hrow : Kd.R kP 72 w2 base (fun _ => True) v' (ps ++ [p]))
    {x : Ent} {cells : Array Value} (hp : w.heap[p]? = some (.cells cells 77 (0, 0))) (hx : kE.M w base (fun _ => True) x cells.toList) (hbp : base ≤ p) :
    let W := w2.setCell ⟨g, 0, none⟩ v'
    W.heap[g]? = some (.cells #[v', .map (some mb)] 88 (0, 0)) ∧ Kd.R kP 72 W base (fun _ => True) v' (ps ++ [p]) ∧
    (∀ (j : Nat) (y : Ent) (q : Nat), (es ++ [x])[j]? = some y → (ps ++ [p])[j]? = some q → base ≤ q ∧ ∃ cells, W.heap[q]? = some (.cells cells 77 (0, 0)) ∧ kE.M W base (fun _ => True) y cells.toList) ∧
    ∃ D : DataW Unit, W.ownsMap Tryd.prog 9 (plainElem Tryd.prog 3) mb es.length D ∧ MapSays D (es.map (·.c.f0)) := by
  intro W
  obtain ⟨inner, ho⟩ := Kd.R_own h.row
  have hgn : some g ≠ v.ownBlock := Kd.R_ne h.row h.blk (by decide)
  have hg2 := blk_grown h.blk hg hgn
  refine ⟨blk_put hg2 0 v' rfl, Kd.R_set hrow hg2 (by decide) 0 v', ?_, ?_⟩
  · intro j y q hy hq
    have hpg : ∀ {q : Nat} {cs : Array Value}, w.heap[q]? = some (.cells cs 77 (0, 0)) → W.heap[q]? = some (.cells cs 77 (0, 0)) := fun {q cs} hq => blk_far (p := ⟨g, 0, none⟩) (blk_grown hq hg (Kd.R_ne h.row hq (by decide))) (blk_ne hq h.blk (by decide)) v'
    by_cases hj : j < es.length
    · rw [List.getElem?_append_left hj] at hy
      rw [List.getElem?_append_left (by rw [h.len]; exact hj)] at hq
      obtain ⟨h1, cs, h2, h3⟩ := h.ent j y q hy hq
      exact ⟨h1, cs, hpg h2, M_push h3 ho hg h.blk (by decide) (by decide) 0 v'⟩
    · have hj2 : j = es.length := by
        have := (List.getElem?_eq_some_iff.1 hy).1
        simp at this
        omega
      subst hj2
      rw [List.getElem?_append_right (Nat.le_refl _)] at hy
      rw [← h.len, List.getElem?_append_right (Nat.le_refl _)] at hq
      simp at hy hq
      subst hy hq
      exact ⟨hbp, cells, hpg hp, M_push hx ho hg h.blk (by decide) (by decide) 0 v'⟩
  · obtain ⟨D, h1, h2⟩ := h.map
    have hmb : some mb ≠ v.ownBlock := fun e => by
      obtain ⟨c, hc⟩ := own_typed ho mb e.symm
      obtain ⟨es1, clock, hbk, _⟩ := h1
      rw [hbk] at hc
      cases hc
    have hne : mb ≠ g := fun e => by
      obtain ⟨es1, clock, hbk, _⟩ := h1
      have := h.blk
      rw [e, this] at hbk
      cases hbk
    exact ⟨D, (h1.kept hg hmb).setCell (a := ⟨g, 0, none⟩) hne v', h2⟩
/-- Behind the store into the map. -/
theorem WIn.mapped {W w3 : World} {base g : Nat} {v' : Value} {mb : Nat} {ps : List Nat} {es : List Ent}
    (hg : base ≤ g) (hblk : W.heap[g]? = some (.cells #[v', .map (some mb)] 88 (0, 0))) (hrow : Kd.R kP 72 W base (fun _ => True) v' ps) (hlen : ps.length = es.length)
    (hent : ∀ (j : Nat) (y : Ent) (q : Nat), es[j]? = some y → ps[j]? = some q → base ≤ q ∧ ∃ cells, W.heap[q]? = some (.cells cells 77 (0, 0)) ∧ kE.M W base (fun _ => True) y cells.toList) (hmb : base ≤ mb)
    {es1 : Array MapEntry} {clock : Nat} (hm : W.heap[mb]? = some (.map es1 clock)) (hgr : W.grownBy w3 (some mb)) {D : DataW Unit} (hD : w3.ownsMap Tryd.prog 9 (plainElem Tryd.prog 3) mb es.length D) (hs : MapSays D (es.map (·.c.f0))) :
    WIn w3 base g v' mb ps es := by
  have hk : ∀ {k : Nat} {cs : Array Value} {t : Nat}, W.heap[k]? = some (.cells cs t (0, 0)) → some k ≠ some mb := fun {k cs t} h e => by
    injection e with e
    subst e
    rw [h] at hm
    cases hm
  have hmv : ∀ {α : Type} {d : Kd α} {x : α} {cs : List Value}, d.M W base (fun _ => True) x cs → d.M w3 base (fun _ => True) x cs := fun {α d x cs} h => by
    have h1 := d.M_bound h
    exact d.M_mono (fun _ _ => trivial) (d.M_move (fun k hk2 => by
      obtain ⟨_, _, hlt, q, hq, c, hc⟩ := hk2
      exact hgr.block k hlt (hk hc)) h1)
  refine ⟨hg, blk_grown hblk hgr (hk hblk), ?_, hlen, fun j y q hy hq => ?_, hmb, D, hD, hs⟩
  · have h1 := Kd.R_bound hrow
    exact Kd.R_mono (Kd.R_move h1 (fun k hk2 => by
      obtain ⟨_, _, hlt, q, hq, c, hc⟩ := hk2
      exact hgr.block k hlt (hk hc))) (fun _ _ => trivial)
  · obtain ⟨h1, cs, h2, h3⟩ := hent j y q hy hq
    exact ⟨h1, cs, blk_grown h2 hgr (hk h2), hmv h3⟩
end Go.Proofs.YtmlifggklaeieaaDoor.Hi

/- hier.World.put: the walk. -/
namespace Go.Proofs.YtmlifggklaeieaaDoor.Hi
open Go Go.RowKit Go.Proofs.YtmlifggklaeieaaDoorW.PrintWords Go.Proofs.YtmlifggklaeieaaDoorW.PrintLast Go.Proofs.YtmlifggklaeieaaDoorW.PrintMore Go.Proofs.YtmlifggklaeieaaDoor.Pt
set_option linter.unusedVariables false
set_option linter.unusedSimpArgs false
set_option maxHeartbeats 4000000
set_option maxRecDepth 100000

theorem info_P : (Tryd.prog.info? 72).map (fun i => (i.zero, i.size, i.bytes)) = some (some (.pointer none), kP.sz, 8) := by kernel_rfl
theorem three_new (w : World) (o1 o2 o3 : Obj) : (((w.alloc o1).alloc o2).alloc o3).heap[w.heap.size]? = some o1 ∧ (((w.alloc o1).alloc o2).alloc o3).heap[w.heap.size + 1]? = some o2 ∧ (((w.alloc o1).alloc o2).alloc o3).heap[w.heap.size + 1 + 1]? = some o3 ∧ Below w.heap.size w (((w.alloc o1).alloc o2).alloc o3) := by
  have e1 : (w.alloc o1).heap.size = w.heap.size + 1 := by simp
  have e2 : ((w.alloc o1).alloc o2).heap.size = w.heap.size + 1 + 1 := by simp
  refine ⟨blk_alloc (blk_alloc (blk_new w o1) o2) o3, ?_, ?_, ?_⟩
  · have := blk_alloc (blk_new (w.alloc o1) o2) o3
    rwa [e1] at this
  · have := blk_new ((w.alloc o1).alloc o2) o3
    rwa [e2] at this
  · exact (((Below.refl _ _).alloc (Nat.le_refl _) _).alloc (by omega) _).alloc (by omega) _
/-- The entry of a number, as reads through the row of pointers find it. -/
theorem WIn_all_at {w : World} {base g : Nat} {A : Option Addr} {n c : Nat} {mb : Nat} {ps : List Nat} {es : List Ent} (h : WIn w base g (.slice A n c) mb ps es) {i : Int} (h0 : 0 ≤ i) (h1 : i < es.length) :
    n = es.length ∧ ∃ ad p A2 c2 A5 c5 A8 c8, A = some ad ∧ w.cell? (ad.add i.toNat) = some (.pointer (some ⟨p, 0, none⟩)) ∧
      w.heap[p]? = some (.cells #[.string (ent es i).c.f0, .string (ent es i).c.f1, .slice A2 (ent es i).c.f2.length c2, .int .i64 (ent es i).c.f3, .int .i64 (ent es i).c.f4, .slice A5 (ent es i).c.f5.length c5, .int .i64 (ent es i).above, .int .i64 (ent es i).depth, .slice A8 (ent es i).clo.length c8] 77 (0, 0)) ∧
      Kd.C Kd.string w A2 (ent es i).c.f2.length (ent es i).c.f2 ∧ Kd.C k51 w A5 (ent es i).c.f5.length (ent es i).c.f5 ∧ Kd.C (Kd.int .i64) w A8 (ent es i).clo.length (ent es i).clo := by
  have hl := h.len
  obtain ⟨p, cells, hp, hb, hK⟩ := h.at_ h0 h1
  obtain ⟨A', c', ev, hlc, RC⟩ := Kd.R_reads h.row
  injection ev with e1 e2 e3
  subst e1 e3
  refine ⟨by omega, ?_⟩
  obtain ⟨ad, cc, ea, hcl, hKK, hcell⟩ := Kd.C_get RC 0 i h0 (by omega)
  obtain rfl : cc = [ptrE (ps.getD i.toNat 0)] := hKK
  have hc := hcell 0 _ rfl
  rw [show kP.sz = 1 from rfl, Nat.mul_one, Nat.add_zero] at hc
  rw [show atP ps i = ptrE (ps.getD i.toNat 0) from if_pos ⟨h0, by omega⟩] at hp
  rw [hp] at hc
  obtain ⟨A2, c2, A5, c5, A8, c8, hcs, l2, g2, l5, g5, l8, g8⟩ := kE_open hK
  have hcs := Array.toList_inj.1 hcs
  rw [hcs] at hb
  exact ⟨ad, p, A2, c2, A5, c5, A8, c8, ea, hc, hb, g2, g5, g8⟩
/-- What is neither a world nor a row of its entries (nor a map) stays. -/
def KeptT (w w' : World) : Prop := ∀ (k : Nat) (cells : Array Value) (t : Nat), w.heap[k]? = some (.cells cells t (0, 0)) → t ≠ 88 → t ≠ 72 → w'.heap[k]? = some (.cells cells t (0, 0))
theorem KeptT.of_below {w w' : World} (h : Below w.heap.size w w') : KeptT w w' := fun k cells t hk _ _ => blk_below hk h
theorem KeptT.trans {w w1 w2 : World} (h : KeptT w w1) (h2 : KeptT w1 w2) : KeptT w w2 := fun k cells t hk h3 h4 => h2 k cells t (h k cells t hk h3 h4) h3 h4
/-- The world of a put under way: the class's box, the entry with its closure, the entry's box. -/
structure Lay (w wr : World) (x0 x1 x2 x3 x4 x5 : Value) (ab dp : Int) (clo : List Int) : Prop where
  b5 : wr.heap[w.heap.size]? = some (.cells #[x0, x1, x2, x3, x4, x5] 44 (0, 0))
  pe : ∃ v8, wr.heap[w.heap.size + 1]? = some (.cells #[x0, x1, x2, x3, x4, x5, .int .i64 ab, .int .i64 dp, v8] 77 (0, 0)) ∧ Kd.R (Kd.int .i64) 3 wr w.heap.size (fun _ => True) v8 clo
  be : wr.heap[w.heap.size + 1 + 1]? = some (.cells #[ptrE (w.heap.size + 1)] 72 (0, 0))
  hb : Below w.heap.size w wr
theorem Lay.below {w wr wr1 : World} {x0 x1 x2 x3 x4 x5 : Value} {ab dp : Int} {clo : List Int} (h : Lay w wr x0 x1 x2 x3 x4 x5 ab dp clo) (hb : Below wr.heap.size wr wr1) : Lay w wr1 x0 x1 x2 x3 x4 x5 ab dp clo := by
  obtain ⟨h1, ⟨v8, h2, h3⟩, h4, h5⟩ := h
  exact ⟨blk_below h1 hb, ⟨v8, blk_below h2 hb, Kd.R_below h3 hb⟩, blk_below h4 hb, h5.trans (hb.mono h5.size)⟩
theorem Lay.add {w wr : World} {x0 x1 x2 x3 x4 x5 : Value} {ab dp : Int} {clo : List Int} (h : Lay w wr x0 x1 x2 x3 x4 x5 ab dp clo) (hl : clo.length ≤ 1000) (id : Int) :
    Calls Tryd.prog 50 #[.int .i64 id, .pointer (some ⟨w.heap.size + 1 + 1, 0, none⟩)] wr fun e w' => e = .returned (.tuple #[]) ∧ Lay w w' x0 x1 x2 x3 x4 x5 ab dp (addI clo id) := by
  obtain ⟨h1, ⟨v8, h2, h3⟩, h4, h5⟩ := h
  have hlt := blk_lt h1
  refine (add_any wr w.heap.size (w.heap.size + 1) (w.heap.size + 1 + 1) _ _ _ _ _ _ _ _ v8 clo id h4 h2 h3 (by omega) h5.size (by omega)).mono ?_
  rintro e w' ⟨rfl, v9, g4, g2, g3, hb, hk⟩
  exact ⟨rfl, hk _ _ h1 (by omega) (Kd.R_ne h3 h1 (by decide)), ⟨v9, g2, g3⟩, g4, h5.trans hb⟩
def depF (es : List Ent) (above : Int) : Int := if above ≥ 0 then (ent es above).depth + 1 else 0
def cloF (es : List Ent) (above : Int) : List Int := if above ≥ 0 then (ent es above).clo else []
theorem put_any (w : World) (base g : Nat) (v : Value) (mb : Nat) (ps : List Nat) (es : List Ent) (h : WIn w base g v mb ps es) (hbs : base ≤ w.heap.size)
    (f0 f1 : ByteArray) (v2 v5 : Value) (l2 : List ByteArray) (f3 f4 : Int) (l5 : List S51) (R2 : Kd.R Kd.string 9 w base (fun _ => True) v2 l2) (R5 : Kd.R k51 51 w base (fun _ => True) v5 l5)
    (above : Int) (ha : above = -1 ∨ (0 ≤ above ∧ above < es.length)) (Ai : Option Addr) (ci : Nat) (ifs : List Int) (hi : Kd.C (Kd.int .i64) w Ai ifs.length ifs) (hr : ∀ i ∈ ifs, 0 ≤ i ∧ i < es.length)
    (hlen : es.length ≤ 1000) (hclo : ∀ x ∈ es, Rng es.length x.clo ∧ 0 ≤ x.depth ∧ x.depth ≤ 1000) (hil : ifs.length ≤ 1000) (hn : f0 ∉ es.map (·.c.f0)) (hs : f0.size ≤ 9223372036854775807) :
    Calls Tryd.prog 37 #[.pointer (some ⟨g, 0, none⟩), .agg #[.string f0, .string f1, v2, .int .i64 f3, .int .i64 f4, v5], .int .i64 above, .slice Ai ifs.length ci] w fun e w' =>
      e = .returned (.int .i64 es.length) ∧ ∃ v' p, WIn w' base g v' mb (ps ++ [p]) (es ++ [putE es ⟨f0, f1, l2, f3, f4, l5⟩ above ifs]) ∧ Below base w w' ∧ KeptT w w' := by
  obtain ⟨A2, c2, rfl⟩ := Kd.R_slice R2
  obtain ⟨A5, c5, rfl⟩ := Kd.R_slice R5
  have H := Lib.hid h
  have HR2 := Lib.hid R2
  have HR5 := Lib.hid R5
  have HI := Lib.hid hi
  have HRI := Lib.hid hr
  have HC := Lib.hid hclo
  have HN := Lib.hid hn
  have hgl := blk_lt h.blk
  have qg0 : w.cell? ⟨g, 0, none⟩ = some v := (blk_cell h.blk 0).trans rfl
  have qg1 : w.cell? ⟨g, 1, none⟩ = some (.map (some mb)) := (blk_cell h.blk 1).trans rfl
  obtain ⟨Av, cv, rfl⟩ := Kd.R_slice h.row
  clear h R2 R5 hi hr hclo hn
  go_enter Tryd.func37, Tryd.ntmps37
  go_upto_region 1 with (fail)
  go_cut [9] (fun v9 wc => v9 = .pointer (some ⟨w.heap.size + 1 + 1, 0, none⟩) ∧ Hid (wc.heap[w.heap.size]? = some (.cells #[.string f0, .string f1, .slice A2 l2.length c2, .int .i64 f3, .int .i64 f4, .slice A5 l5.length c5] 44 (0, 0))) ∧ Hid (wc.heap[w.heap.size + 1]? = some (.cells #[.string f0, .string f1, .slice A2 l2.length c2, .int .i64 f3, .int .i64 f4, .slice A5 l5.length c5, .int .i64 above, .int .i64 0, .slice none 0 0] 77 (0, 0))) ∧ Hid (wc.heap[w.heap.size + 1 + 1]? = some (.cells #[ptrE (w.heap.size + 1)] 72 (0, 0))) ∧ Hid (Below w.heap.size w wc))
  case first =>
    go_wp2
    go_meet
    case rel => exact ⟨rfl, Lib.hid (three_new _ _ _ _).1, Lib.hid (three_new _ _ _ _).2.1, Lib.hid (three_new _ _ _ _).2.2.1, Lib.hid (three_new _ _ _ _).2.2.2⟩
  case rest =>
    obtain ⟨rfl, B5, PE, BE, HB⟩ := hcut
    go_upto_if 21 with (fail)
    go_cut [] (fun wc => Hid (Lay w wc (.string f0) (.string f1) (.slice A2 l2.length c2) (.int .i64 f3) (.int .i64 f4) (.slice A5 l5.length c5) above (depF es above) (cloF es above)))
    case first =>
      by_cases h0 : 0 ≤ above
      · have hd : decide (0 ≤ above) = true := decide_eq_true h0
        have h1 : above < es.length := by omega
        have e1 : Hid (depF es above = (ent es above).depth + 1) := Lib.hid (if_pos h0)
        have e2 : Hid (cloF es above = (ent es above).clo) := Lib.hid (if_pos h0)
        obtain ⟨hnl, ad, p, A2', c2', A5', c5', A8', c8', rfl, hrow, hent, g2, g5, g8⟩ := WIn_all_at H.out h0 h1
        have hm : ent es above ∈ es := List.mem_of_getElem? (get_ent h0 h1)
        have hdep := (HC.out _ hm).2
        have hxl := Lib.hid (show (ent es above).clo.length * 8 ≤ 140737488355328 by have := (HC.out _ hm).1.len; omega)
        generalize ent es above = x at *
        have hpl : p < w.heap.size := blk_lt hent
        have hp7 : w.cell? ⟨p, 7, none⟩ = some (.int .i64 x.depth) := (blk_cell hent 7).trans rfl
        have hp8 : w.cell? ⟨p, 8, none⟩ = some (.slice A8' x.clo.length c8') := (blk_cell hent 8).trans rfl
        clear g2 g5 hm hent
        replace hrow := Lib.hid hrow
        replace hp7 := Lib.hid hp7
        replace hp8 := Lib.hid hp8
        replace g8 := Lib.hid g8
        have hlt : above < (ps.length : Int) := by omega
        have hb0 : wc.cell? ⟨w.heap.size + 1 + 1, 0, none⟩ = some (.pointer (some ⟨w.heap.size + 1, 0, none⟩)) := (blk_cell BE.out 0).trans rfl
        have hx7 : wc.cell? ⟨w.heap.size + 1, 7, none⟩ = some (.int .i64 0) := (blk_cell PE.out 7).trans rfl
        have hf7 := blk_frozen PE.out 7
        have hg0 := pw_cell_below HB.out qg0
        have hrow1 := pw_cell_below HB.out hrow.out
        have hp71 := pw_cell_below HB.out hp7.out
        have F1 := Lib.hid (blk_drew (blk_far (p := ⟨w.heap.size + 1, 7, none⟩) B5.out (by simp) (.int .i64 (x.depth + 1))))
        have F2 := Lib.hid (blk_drew (blk_put PE.out 7 (.int .i64 (x.depth + 1)) rfl))
        have F3 := Lib.hid (blk_drew (blk_far (p := ⟨w.heap.size + 1, 7, none⟩) BE.out (by simp) (.int .i64 (x.depth + 1))))
        have F4 := Lib.hid (below_drew1 (HB.out.setCell (p := ⟨w.heap.size + 1, 7, none⟩) (Nat.le_succ _) (.int .i64 (x.depth + 1))))
        go_upto_region 3 with (fail)
        go_region
        generalize (wc.setCell ⟨w.heap.size + 1, 7, none⟩ (.int .i64 (x.depth + 1))).drew = W at *
        clear hb0 hx7 hf7 hg0 hrow1 hp71 B5 PE BE HB
        have hb0 : W.cell? ⟨w.heap.size + 1 + 1, 0, none⟩ = some (.pointer (some ⟨w.heap.size + 1, 0, none⟩)) := (blk_cell F3.out 0).trans rfl
        have hx8 : W.cell? ⟨w.heap.size + 1, 8, none⟩ = some (.slice none 0 0) := (blk_cell F2.out 8).trans rfl
        have hf8 := blk_frozen F2.out 8
        have hg0 := pw_cell_below F4.out qg0
        have hrow1 := pw_cell_below F4.out hrow.out
        have hp81 := pw_cell_below F4.out hp8.out
        have CL := Lib.hid (fun (W' : World) (hb : Below W.heap.size W W') => cloneInt A8' c8' x.clo W' (Kd.C_below g8.out (F4.out.trans (hb.mono F4.out.size))) hxl.out)
        go_wp2_with fail
        go_region_with (go_at_call 49; refine (CL.out _ (by repeat (first | exact Below.refl _ _ | apply below_drew1 | apply pw_below_drewN))).mono ?_; rintro e w10 ⟨v8, rfl, R8, hb10⟩; obtain ⟨A9, c9, rfl⟩ := Kd.R_slice R8; have hb11 : Hid (Below W.heap.size W w10) := Lib.hid ⟨hb10.os, hb10.tape, hb10.output, hb10.size, hb10.block⟩; have hb02 := pw_cell_below hb11.out hb0; have hx82 := pw_cell_below hb11.out hx8; have hf82 := blk_frozen (blk_below F2.out hb11.out) 8; replace R8 := Lib.hid R8; replace hb10 := Lib.hid hb10)
        all_goals have G1 := Lib.hid (blk_far (p := ⟨w.heap.size + 1, 8, none⟩) (blk_below F1.out hb11.out) (by simp) (.slice A9 x.clo.length c9))
        all_goals have G2 := Lib.hid (blk_put (blk_below F2.out hb11.out) 8 (.slice A9 x.clo.length c9) rfl)
        all_goals have G3 := Lib.hid (blk_far (p := ⟨w.heap.size + 1, 8, none⟩) (blk_below F3.out hb11.out) (by simp) (.slice A9 x.clo.length c9))
        all_goals have G4 := Lib.hid ((F4.out.trans (hb11.out.mono F4.out.size)).setCell (p := ⟨w.heap.size + 1, 8, none⟩) (Nat.le_succ _) (.slice A9 x.clo.length c9))
        all_goals have G5 := Lib.hid (Kd.R_set (Kd.R_lower R8.out (show w.heap.size ≤ _ from F4.out.size)) (blk_below F2.out hb11.out) (by decide) 8 (.slice A9 x.clo.length c9))
        all_goals clear hb02 hx82 hf82 R8 hb10
        all_goals go_wp2
        all_goals go_meet
        all_goals (case rel => exact Lib.hid ⟨G1.out, ⟨_, by rw [e1.out]; exact G2.out, by rw [e2.out]; exact G5.out⟩, G3.out, G4.out⟩)
      · have hd : decide (0 ≤ above) = false := decide_eq_false h0
        have e1 : depF es above = 0 := if_neg (by omega)
        have e2 : cloF es above = [] := if_neg (by omega)
        replace e1 := Lib.hid e1
        replace e2 := Lib.hid e2
        go_wp2
        go_meet
        case rel => exact Lib.hid ⟨B5.out, ⟨.slice none 0 0, by rw [e1.out]; exact PE.out, by rw [e2.out]; exact Kd.R_nil _ _ _ _ _⟩, BE.out, HB.out⟩
    case rest =>
      go_upto_block 0 with (fail)
      go_cut [] (fun wc => Hid (Lay w wc (.string f0) (.string f1) (.slice A2 l2.length c2) (.int .i64 f3) (.int .i64 f4) (.slice A5 l5.length c5) above (depF es above) (closF es (cloF es above) ifs)))
      case first =>
        go_wp2_with fail
        go_loopw [53] (fun i wr => ∃ k : Nat, k ≤ ifs.length ∧ i = .int .i64 k ∧ Hid (Lay w wr (.string f0) (.string f1) (.slice A2 l2.length c2) (.int .i64 f3) (.int .i64 f4) (.slice A5 l5.length c5) above (depF es above) (closF es (cloF es above) (ifs.take k)))) (fun i _ => ifs.length - (intOf i).toNat)
        case atStart => exact ⟨0, Nat.zero_le _, rfl, hcut⟩
        case round =>
          clear hcut
          obtain ⟨k, hk, rfl, LY⟩ := hrel
          by_cases hlt : k < ifs.length
          · obtain ⟨ad0, cc, rfl, hcl, hKK, hic⟩ := Kd.C_get HI.out 0 (k : Int) (by omega) (by omega)
            obtain rfl : cc = [.int .i64 (ifs.getD k 0)] := hKK
            have hic := hic 0 _ rfl
            rw [show (Kd.int .i64).sz = 1 from rfl, Nat.mul_one, Nat.add_zero, Int.toNat_natCast] at hic
            have hx : ifs[k]? = some (ifs.getD k 0) := by rw [List.getD_eq_getElem?_getD, List.getElem?_eq_getElem hlt]; rfl
            obtain ⟨hi0, hi1⟩ := HRI.out _ (List.mem_of_getElem? hx)
            have HT := Lib.hid (fun (ci : Nat) (L : List Int) (h : L = closF es (cloF es above) (ifs.take k)) => h)
            have hTk := Lib.hid (closF_take (es := es) (acc := cloF es above) hx)
            have hRk : Hid (Rng es.length (closF es (cloF es above) (ifs.take k))) := Lib.hid (Rng.clos (fun x hx => (HC.out x hx).1) (by
              unfold cloF
              split
              · exact (HC.out _ (List.mem_of_getElem? (get_ent (by assumption) (by omega)))).1
              · exact Rng.nil _) (fun i hi => HRI.out i (List.mem_of_mem_take hi)) (Nat.le_refl _))
            generalize ifs.getD k 0 = i at *
            obtain ⟨hnl, ad, p, A2', c2', A5', c5', A8', c8', rfl, hrow, hent, g2, g5, g8⟩ := WIn_all_at H.out hi0 hi1
            have hm : ent es i ∈ es := List.mem_of_getElem? (get_ent hi0 hi1)
            have hRx := Lib.hid (HC.out _ hm).1
            have hxb : (ent es i).clo.length ≤ 1000 := by have := hRx.out.len; omega
            generalize ent es i = x at *
            have hp8 : w.cell? ⟨p, 8, none⟩ = some (.slice A8' x.clo.length c8') := (blk_cell hent 8).trans rfl
            clear g2 g5 hm hent hx HT
            replace hrow := Lib.hid hrow
            replace hp8 := Lib.hid hp8
            replace g8 := Lib.hid g8
            replace hic := Lib.hid hic
            have hic1 := pw_cell_below LY.out.hb hic.out
            have hg0 := pw_cell_below LY.out.hb qg0
            have hrow1 := pw_cell_below LY.out.hb hrow.out
            have hp81 := pw_cell_below LY.out.hb hp8.out
            have hlt2 : i < (ps.length : Int) := by omega
            have hlk : decide (k < ifs.length) = true := decide_eq_true hlt
            go_wp2_with fail
            go_loopw [68] (fun jv wr => ∃ j : Nat, j ≤ x.clo.length ∧ jv = .int .i64 j ∧ Hid (Lay w wr (.string f0) (.string f1) (.slice A2 l2.length c2) (.int .i64 f3) (.int .i64 f4) (.slice A5 l5.length c5) above (depF es above) (foldI (x.clo.take j) (closF es (cloF es above) (ifs.take k))))) (fun jv _ => x.clo.length - (intOf jv).toNat)
            case atStart => exact ⟨0, Nat.zero_le _, rfl, LY⟩
            case round =>
              clear LY hic1 hg0 hrow1 hp81
              obtain ⟨j, hj, rfl, LZ⟩ := hrel
              by_cases hjl : j < x.clo.length
              · obtain ⟨ad2, cc2, rfl, hcl2, hKK2, hjc⟩ := Kd.C_get g8.out 0 (j : Int) (by omega) (by omega)
                obtain rfl : cc2 = [.int .i64 (x.clo.getD j 0)] := hKK2
                have hjc := hjc 0 _ rfl
                rw [show (Kd.int .i64).sz = 1 from rfl, Nat.mul_one, Nat.add_zero, Int.toNat_natCast] at hjc
                have hy : x.clo[j]? = some (x.clo.getD j 0) := by rw [List.getD_eq_getElem?_getD, List.getElem?_eq_getElem hjl]; rfl
                have hf := Lib.hid (foldI_take (acc := closF es (cloF es above) (ifs.take k)) hy)
                have hln : (foldI (x.clo.take j) (closF es (cloF es above) (ifs.take k))).length ≤ 1000 := Nat.le_trans (hRk.out.fold (ks := x.clo.take j) (fun y hy => hRx.out.2 y (List.mem_of_mem_take hy))).len hlen
                generalize x.clo.getD j 0 = y at *
                have hjc1 := pw_cell_below LZ.out.hb hjc
                have hjd : decide (j < x.clo.length) = true := decide_eq_true hjl
                have CA := Lib.hid (LZ.out.add hln y)
                clear LZ hy hln hjc
                go_wp2_with (go_at_call 50; refine CA.out.mono ?_; rintro e w2 ⟨rfl, LW⟩; replace LW := Lib.hid LW)
                refine ⟨⟨j + 1, by omega, by push_cast; rfl, by rw [hf.out]; exact LW⟩, by simp [intOf]; omega⟩
              · obtain rfl : j = x.clo.length := by omega
                rw [List.take_length] at LZ
                have hln : (foldI x.clo (closF es (cloF es above) (ifs.take k))).length ≤ 1000 := Nat.le_trans (hRk.out.fold (ks := x.clo) hRx.out.2).len hlen
                have hjd : decide (x.clo.length < x.clo.length) = false := by simp
                have CA := Lib.hid (LZ.out.add hln i)
                clear LZ hln
                go_wp2_with (go_at_call 50; refine CA.out.mono ?_; rintro e w2 ⟨rfl, LW⟩; replace LW := Lib.hid LW)
                refine ⟨⟨k + 1, by omega, by push_cast; rfl, by rw [hTk.out]; exact LW⟩, by simp [intOf]; omega⟩
          · obtain rfl : k = ifs.length := by omega
            rw [List.take_length] at LY
            have hge : decide (ifs.length < ifs.length) = false := by simp
            go_wp2
            go_meet
            case rel => exact LY
      case rest =>
        replace LY := hcut
        obtain ⟨B5, ⟨v8, PE, R8⟩, BE, HB⟩ := LY.out
        have HRW := (H.out.below HB)
        have hg0 := pw_cell_below HB qg0
        replace HRW := Lib.hid HRW
        replace B5 := Lib.hid B5
        replace PE := Lib.hid PE
        replace R8 := Lib.hid R8
        replace BE := Lib.hid BE
        replace HB := Lib.hid HB
        clear LY hcut
        have hgl2 : g < wc.heap.size := Nat.lt_of_lt_of_le hgl HB.out.size
        have hbl2 : w.heap.size + 1 + 1 < wc.heap.size := blk_lt BE.out
        have hb0 : wc.cell? ⟨w.heap.size + 1 + 1, 0, none⟩ = some (.pointer (some ⟨w.heap.size + 1, 0, none⟩)) := (blk_cell BE.out 0).trans rfl
        have hgn : Hid (some g ≠ (Value.slice Av ps.length cv).ownBlock) := Lib.hid (Kd.R_ne HRW.out.row HRW.out.blk (by decide))
        have hbn : Hid (some w.heap.size ≠ (Value.slice Av ps.length cv).ownBlock) := Lib.hid (Kd.R_ne HRW.out.row B5.out (by decide))
        have hgf := blk_frozen HRW.out.blk 0
        have hpl : ps.length = es.length := HRW.out.len
        have hgb : Hid (base ≤ g) := Lib.hid HRW.out.hg
        replace hpl := Lib.hid hpl
        have hpb : ps.length ≤ 1000 := by rw [hpl.out]; exact hlen
        have hcb : base ≤ wc.heap.size := Nat.le_trans hbs HB.out.size
        go_upto_region 17 with (fail)
        go_cut [] (fun wf => ∃ v1, Hid (wf.heap[g]? = some (.cells #[v1, .map (some mb)] 88 (0, 0)) ∧ Kd.R kP 72 wf base (fun _ => True) v1 (ps ++ [w.heap.size + 1]) ∧
            (∀ (j : Nat) (y : Ent) (q : Nat), (es ++ [putE es ⟨f0, f1, l2, f3, f4, l5⟩ above ifs])[j]? = some y → (ps ++ [w.heap.size + 1])[j]? = some q → base ≤ q ∧ ∃ cells, wf.heap[q]? = some (.cells cells 77 (0, 0)) ∧ kE.M wf base (fun _ => True) y cells.toList) ∧
            ∃ D : DataW Unit, wf.ownsMap Tryd.prog 9 (plainElem Tryd.prog 3) mb es.length D ∧ MapSays D (es.map (·.c.f0))) ∧ Hid (wf.heap[w.heap.size]? = some (.cells #[.string f0, .string f1, .slice A2 l2.length c2, .int .i64 f3, .int .i64 f4, .slice A5 l5.length c5] 44 (0, 0))) ∧ Hid (Below base w wf) ∧ Hid (KeptT w wf))
        case first =>
          go_region_law (first | (refine Kd.R_append_step kP (W := wc.drew) (w0 := wc) base (by rfl) (.tmp 89) (.tmp 91) 86 72 (.pointer none) 8 (by rfl) Tryd.underlying86 info_P rfl (by decide) (by omega) _ ps (w.heap.size + 1) [ptrE (w.heap.size + 1)] (fun _ => True) (fun _ => False) (by rfl) (by rfl) rfl (fun _ h => h.elim) (fun _ _ => trivial) (Kd.R_below HRW.out.row (below_drew1 (Below.refl _ _))) (below_drew1 (Below.refl _ _)) hcb (by omega) ?_; intro v1 w2 h1 h2 h3 h4; obtain ⟨A9, c9, rfl⟩ := Kd.R_slice h1; rw [show (ps ++ [w.heap.size + 1]).length = ps.length + 1 by simp] at h1; replace h1 := Lib.hid h1; replace h2 := Lib.hid h2; replace h3 := Lib.hid h3; have kx := (h3.out.frozen_far ⟨g, 0, none⟩ hgl2 hgn.out).trans hgf; have qx := (h3.out.cell_far ⟨g, 0, none⟩ hgl2 hgn.out).trans hg0; clear h4))
          all_goals have NW := Lib.hid (WIn.push (w := wc.drew) (HRW.out.below (below_drew1 (Below.refl _ _))) h3.out h1.out (x := putE es ⟨f0, f1, l2, f3, f4, l5⟩ above ifs) PE.out
            (kE_mkM wc.drew base (fun _ => True) (putE es ⟨f0, f1, l2, f3, f4, l5⟩ above ifs) (Kd.R_below HR2.out (below_drew1 HB.out)) (Kd.R_below HR5.out (below_drew1 HB.out)) (Kd.R_lower (Kd.R_below R8.out (below_drew1 (Below.refl _ _))) hbs)) (by omega))
          all_goals have NB := Lib.hid (blk_far (p := ⟨g, 0, none⟩) (blk_grown (w := wc.drew) B5.out h3.out hbn.out) (by show w.heap.size ≠ g; omega) (.slice A9 (ps.length + 1) c9))
          all_goals have NC := Lib.hid (((HB.out.mono hbs).trans h2.out).setCell (p := ⟨g, 0, none⟩) hgb.out (.slice A9 (ps.length + 1) c9))
          all_goals have NK : Hid (KeptT w (w2.setCell ⟨g, 0, none⟩ (.slice A9 (ps.length + 1) c9))) := Lib.hid (fun k cells t hk ht1 ht2 => by
            have hk1 := blk_below hk HB.out
            exact blk_far (p := ⟨g, 0, none⟩) (blk_grown (w := wc.drew) hk1 h3.out (Kd.R_ne HRW.out.row hk1 (Ne.symm ht2))) (blk_ne hk1 HRW.out.blk ht1) _)
          all_goals clear h1 h2 h3 kx qx
          all_goals go_wp2
          all_goals go_meet
          all_goals (case rel => exact ⟨_, NW, NB, NC, NK⟩)
        case rest =>
          obtain ⟨v1, NW, B5, HB, HK⟩ := hcut
          obtain ⟨hblk, hrow, hent, D, hD, hDs⟩ := NW.out
          have hmx : es.length < maxLen := by unfold maxLen; omega
          obtain ⟨w3, hrun, hD3, hgr⟩ := World.ownsMap.update (w := wc.drew) hD.drew (Maps.string_keyed Tryd.underlying9) Tryd.underlying85 hmx (Go.WideMaps.keyOf_string_mk Tryd.underlying9 hs) (plainElem_int Tryd.underlying3 (WalkArith.wf_i64 (n := (ps.length : Int)) (by omega)))
          have q1 : wc.cell? ⟨g, 1, none⟩ = some (.map (some mb)) := (blk_cell hblk 1).trans rfl
          have q5 : wc.cell? ⟨w.heap.size, 0, none⟩ = some (.string f0) := (blk_cell B5.out 0).trans rfl
          obtain ⟨es1, clock, hbk, _⟩ := id hD
          rw [hpl.out] at hD3
          have hfin : Hid (WIn w3 base g v1 mb (ps ++ [w.heap.size + 1]) (es ++ [putE es ⟨f0, f1, l2, f3, f4, l5⟩ above ifs])) := Lib.hid (by
            have hb := below_drew1 (Below.refl wc.heap.size wc)
            refine WIn.mapped (W := wc.drew) hgb.out hblk (Kd.R_below hrow hb) (by simp [hpl.out]) (fun j y q hy hq => ?_) H.out.mbl (es1 := es1) (clock := clock) hbk hgr (by rw [List.length_append]; exact hD3) ?_
            · obtain ⟨h1, cs, h2, h3⟩ := hent j y q hy hq
              exact ⟨h1, cs, h2, Kd.M_below h3 hb⟩
            · rw [List.map_append]
              have := MapSays.put hDs f0 HN.out
              rw [List.length_map] at this
              exact this)
          have hbw : Hid (Below base w w3) := Lib.hid ((below_drew1 HB.out).grown hgr (Nat.le_trans hbs HB.out.size) (fun k hk => by injection hk with hk; rw [← hk]; exact H.out.mbl))
          have hkt : Hid (KeptT w w3) := Lib.hid (fun k cells t hk ht1 ht2 => by
            have hk1 := HK.out k cells t hk ht1 ht2
            refine (hgr.block k (blk_lt (w := wc.drew) hk1) (fun e => ?_)).trans hk1
            injection e with e
            subst e
            rw [hk1] at hbk
            cases hbk)
          clear NW hblk hrow hent hD hDs hD3 hgr hbk HB B5 HK
          go_wp2
          go_region
          all_goals go_wp2
          all_goals go_ret
          all_goals exact ⟨show Ending.returned (Value.int .i64 ((ps.length : Nat) : Int)) = _ by rw [hpl.out], _, _, hfin.out, hbw.out, hkt.out⟩
end Go.Proofs.YtmlifggklaeieaaDoor.Hi

/- Queries of a world of classes: IsIface, ByName. -/
namespace Go.Proofs.YtmlifggklaeieaaDoor.Hi
open Go Go.RowKit Go.Proofs.YtmlifggklaeieaaDoorW.PrintWords Go.Proofs.YtmlifggklaeieaaDoorW.PrintLast Go.Proofs.YtmlifggklaeieaaDoorW.PrintMore Go.Proofs.YtmlifggklaeieaaDoor.Pt
set_option linter.unusedVariables false
set_option linter.unusedSimpArgs false
set_option maxHeartbeats 2000000
set_option maxRecDepth 100000

/-- at, of a number that is one. -/
theorem at_in {w : World} {g : Nat} {es : List Ent} (hq : WOK w g es) {i : Int} (h0 : 0 ≤ i) (h1 : i < es.length) : ∃ p A2 c2 A5 c5 A8 c8,
      w.heap[p]? = some (.cells #[.string (ent es i).c.f0, .string (ent es i).c.f1, .slice A2 (ent es i).c.f2.length c2, .int .i64 (ent es i).c.f3, .int .i64 (ent es i).c.f4, .slice A5 (ent es i).c.f5.length c5, .int .i64 (ent es i).above, .int .i64 (ent es i).depth, .slice A8 (ent es i).clo.length c8] 77 (0, 0)) ∧
      (ent es i).c.f2.length ≤ c2 ∧ Kd.C Kd.string w A2 (ent es i).c.f2.length (ent es i).c.f2 ∧ (ent es i).c.f5.length ≤ c5 ∧ Kd.C k51 w A5 (ent es i).c.f5.length (ent es i).c.f5 ∧ (ent es i).clo.length ≤ c8 ∧ (∃ base, Kd.R (Kd.int .i64) 3 w base (fun _ => True) (.slice A8 (ent es i).clo.length c8) (ent es i).clo) ∧
      ∀ W, Below w.heap.size w W → Calls Tryd.prog 32 #[.pointer (some ⟨g, 0, none⟩), .int .i64 i] W fun e w' => e = .returned (.pointer (some ⟨p, 0, none⟩)) ∧ Below W.heap.size W w' := by
  obtain ⟨⟨base, v, mb, ps, h⟩, hf, ht, hlen⟩ := hq
  have hl := h.len
  have hx := get_ent h0 h1
  have hp : ps[i.toNat]? = some (ps.getD i.toNat 0) := by
    rw [List.getD_eq_getElem?_getD, List.getElem?_eq_getElem (by omega)]; rfl
  obtain ⟨_, cells, hb, hM⟩ := h.ent _ _ _ hx hp
  obtain ⟨_, _, e1, hc, ⟨_, _, e2, e2', ⟨_, _, e3, e3', ⟨v8, e4, R8⟩⟩⟩⟩ := hM
  have hC := k44.K_of_M hc
  obtain ⟨A2, c2, A5, c5, e5, l2, g2, l5, g5⟩ := k44_open hC
  obtain ⟨A8, c8, e6, l8, _⟩ := Kd.R_reads R8
  subst e6
  have hcs : cells = #[.string (ent es i).c.f0, .string (ent es i).c.f1, .slice A2 (ent es i).c.f2.length c2, .int .i64 (ent es i).c.f3, .int .i64 (ent es i).c.f4, .slice A5 (ent es i).c.f5.length c5, .int .i64 (ent es i).above, .int .i64 (ent es i).depth, .slice A8 (ent es i).clo.length c8] := by
    apply Array.toList_inj.1
    rw [e1, e5, e2, e3, e4, e2', e3']
    rfl
  rw [hcs] at hb
  refine ⟨ps.getD i.toNat 0, A2, c2, A5, c5, A8, c8, hb, l2, g2, l5, g5, l8, ⟨base, R8⟩, fun W hW => ?_⟩
  have := at_any W base g v mb ps es (h.below hW) i
  rwa [show atP ps i = .pointer (some ⟨ps.getD i.toNat 0, 0, none⟩) from if_pos ⟨h0, by omega⟩] at this
theorem at_out {w : World} {g : Nat} {es : List Ent} (hq : WOK w g es) {i : Int} (h : ¬ (0 ≤ i ∧ i < es.length)) :
    ∀ W, Below w.heap.size w W → Calls Tryd.prog 32 #[.pointer (some ⟨g, 0, none⟩), .int .i64 i] W fun e w' => e = .returned (.pointer none) ∧ Below W.heap.size W w' := by
  obtain ⟨⟨base, v, mb, ps, hi⟩, hf, ht, hlen⟩ := hq
  have hl := hi.len
  intro W hW
  have := at_any W base g v mb ps es (hi.below hW) i
  rwa [show atP ps i = .pointer none from if_neg (by omega)] at this
theorem iface_any (w : World) (x0 x1 x2 x4 x5 : Value) (f3 : Int) : Calls Tryd.prog 40 #[.agg #[x0, x1, x2, .int .i64 f3, x4, x5]] w fun e w' => e = .returned (.bool (Go.bits .and .i64 f3 512 != 0)) ∧ Below w.heap.size w w' := by
  go_enter Tryd.func40, Tryd.ntmps40
  go_wp2
  go_ret
  exact ⟨rfl, (Below.refl _ _).alloc (Nat.le_refl _) _⟩
theorem isIface_any (w : World) (g : Nat) (es : List Ent) (hq : WOK w g es) (i : Int) :
    Calls Tryd.prog 27 #[.pointer (some ⟨g, 0, none⟩), .int .i64 i] w fun e w' => e = .returned (.bool (inB es i && isI (ent es i).c)) ∧ Below w.heap.size w w' := by
  by_cases hi : 0 ≤ i ∧ i < es.length
  · obtain ⟨p, A2, c2, A5, c5, A8, c8, hb, l2, g2, l5, g5, l8, R8, HA⟩ := at_in hq hi.1 hi.2
    have he : Hid (inB es i = true) := Lib.hid (decide_eq_true hi)
    have CA := Lib.hid (HA w (Below.refl _ _))
    generalize ent es i = x at *
    replace hb := Lib.hid hb
    clear HA hq l2 g2 l5 g5 l8 R8
    go_enter Tryd.func27, Tryd.ntmps27
    go_wp2_with fail
    refine CA.out.mono ?_
    rintro e w1 ⟨rfl, hb1⟩
    have D := blk_below hb.out hb1
    have p0 : w1.cell? ⟨p, 0, none⟩ = some (.string x.c.f0) := (blk_cell D 0).trans rfl
    have p1 : w1.cell? ⟨p, 1, none⟩ = some (.string x.c.f1) := (blk_cell D 1).trans rfl
    have p2 : w1.cell? ⟨p, 2, none⟩ = some (.slice A2 x.c.f2.length c2) := (blk_cell D 2).trans rfl
    have p3 : w1.cell? ⟨p, 3, none⟩ = some (.int .i64 x.c.f3) := (blk_cell D 3).trans rfl
    have p4 : w1.cell? ⟨p, 4, none⟩ = some (.int .i64 x.c.f4) := (blk_cell D 4).trans rfl
    have p5 : w1.cell? ⟨p, 5, none⟩ = some (.slice A5 x.c.f5.length c5) := (blk_cell D 5).trans rfl
    have IF := Lib.hid (iface_any w1 (.string x.c.f0) (.string x.c.f1) (.slice A2 x.c.f2.length c2) (.int .i64 x.c.f4) (.slice A5 x.c.f5.length c5) x.c.f3)
    replace hb1 := Lib.hid hb1
    clear D CA
    go_wp2_with (go_at_call 40; refine IF.out.mono ?_; rintro e w2 ⟨rfl, hb2⟩; replace hb2 := Lib.hid hb2)
    go_ret
    exact ⟨by rw [he.out]; rfl, hb1.out.trans (hb2.out.mono hb1.out.size)⟩
  · have he : Hid (inB es i = false) := Lib.hid (decide_eq_false hi)
    have CA := Lib.hid (at_out hq hi w (Below.refl _ _))
    clear hq
    go_enter Tryd.func27, Tryd.ntmps27
    go_wp2_with fail
    refine CA.out.mono ?_
    rintro e w1 ⟨rfl, hb1⟩
    replace hb1 := Lib.hid hb1
    clear CA
    go_wp2
    go_ret
    exact ⟨by rw [he.out]; rfl, hb1.out⟩
/-- What a look-up in the map of names finds. -/
theorem look_name {D : DataW Unit} {es : List Ent} (h : MapSays D (es.map (·.c.f0))) (s : ByteArray) (c : Int) (hc : D.atKey (.string s.data.toList) (.lit (.int .i64 0)) = .lit (.int .i64 c)) :
    (Maps.has D (.string s.data.toList) = true → (nameF es s).1 = c ∧ (nameF es s).2 = 0 ∧ 0 ≤ c ∧ c < es.length ∧ (ent es c).c.f0 = s) ∧ (Maps.has D (.string s.data.toList) = false → (nameF es s) = (0, 6)) := by
  obtain ⟨hm, h⟩ := h
  obtain ⟨h1, h2⟩ := h s
  unfold nameF
  cases hf : (es.map (·.c.f0)).findIdx? (fun t => decide (t = s)) with
  | some i =>
    obtain ⟨hi, hs, _⟩ := List.findIdx?_eq_some_iff_getElem.1 hf
    have hs := of_decide_eq_true hs
    have hget : (es.map (·.c.f0))[i]? = some s := by rw [List.getElem?_eq_getElem hi, hs]
    have := h2 i hget
    rw [this] at hc
    injection hc with hc
    injection hc with _ hc
    rw [List.length_map] at hi
    refine ⟨fun _ => ⟨hc, rfl, by omega, by omega, ?_⟩, fun hn => ?_⟩
    · rw [← hc]
      rw [List.getElem?_map, List.getElem?_eq_getElem hi] at hget
      have := ent_get (List.getElem?_eq_getElem hi)
      rw [this]
      simpa using hget
    · have := h1.2 (List.mem_of_getElem? hget)
      rw [hn] at this
      cases this
  | none =>
    refine ⟨fun hy => ?_, fun _ => rfl⟩
    have := h1.1 hy
    rw [List.findIdx?_eq_none_iff] at hf
    have := hf s this
    simp at this
theorem zeroInt (w : World) : (zeroValue 3).run Tryd.prog w = .ok (.int .i64 0) w := by kernel_rfl
theorem byName_any (w : World) (g : Nat) (es : List Ent) (hq : WOK w g es) (s : ByteArray) (hs : s.size ≤ 9223372036854775807) :
    Calls Tryd.prog 25 #[.pointer (some ⟨g, 0, none⟩), .string s] w fun e w' => e = .returned (.tuple #[.int .i64 (nameF es s).1, .int .i64 (nameF es s).2]) ∧ Below w.heap.size w w' := by
  obtain ⟨⟨base, v, mb, ps, h⟩, hf, ht, hlen⟩ := hq
  obtain ⟨D, hD, hS⟩ := h.map
  have q1 : w.cell? ⟨g, 1, none⟩ = some (.map (some mb)) := (blk_cell h.blk 1).trans rfl
  replace hS := Lib.hid hS
  replace hD := Lib.hid hD
  clear h hf ht
  cases hh : Maps.has D (.string s.data.toList)
  · have LN := Lib.hid (fun c hc => (look_name hS.out s c hc).2 hh)
    go_enter Tryd.func25, Tryd.ntmps25
    go_wp2_with (at_lookup; refine wpList_lookup_own_ok_int _ rfl _ _ 85 rfl 9 3 .i64 (Maps.string_keyed Tryd.underlying9) Tryd.underlying85 Tryd.underlying3 (zeroInt _) mb es.length D rfl hD.out _ _ rfl (Go.WideMaps.keyOf_string_mk Tryd.underlying9 hs) ?_; intro c hat hwc; replace hat := Lib.hid hat; clear hwc)
    all_goals go_ret2
    all_goals have e1 := LN.out c hat.out
    all_goals exact ⟨(by rw [e1]; rfl), Below.refl _ _⟩
  · have LN := Lib.hid (fun c hc => (look_name hS.out s c hc).1 hh)
    go_enter Tryd.func25, Tryd.ntmps25
    go_wp2_with (at_lookup; refine wpList_lookup_own_ok_int _ rfl _ _ 85 rfl 9 3 .i64 (Maps.string_keyed Tryd.underlying9) Tryd.underlying85 Tryd.underlying3 (zeroInt _) mb es.length D rfl hD.out _ _ rfl (Go.WideMaps.keyOf_string_mk Tryd.underlying9 hs) ?_; intro c hat hwc; replace hat := Lib.hid hat; clear hwc)
    all_goals go_ret2
    all_goals obtain ⟨e1, e2, _⟩ := LN.out c hat.out
    all_goals exact ⟨(by rw [e1, e2]; rfl), Below.refl _ _⟩
end Go.Proofs.YtmlifggklaeieaaDoor.Hi

/- Queries of a world of classes: SamePackage. -/
namespace Go.Proofs.YtmlifggklaeieaaDoor.Hi
open Go Go.RowKit Go.Proofs.YtmlifggklaeieaaDoor.Nm Go.Proofs.YtmlifggklaeieaaDoorW.PrintWords Go.Proofs.YtmlifggklaeieaaDoorW.PrintLast Go.Proofs.YtmlifggklaeieaaDoorW.PrintMore Go.Proofs.YtmlifggklaeieaaDoor.Pt
set_option linter.unusedVariables false
set_option linter.unusedSimpArgs false
set_option maxHeartbeats 2000000
set_option maxRecDepth 100000

/-- Two classes of one run-time package. -/
def tog (a b : S44) : Bool := a.f4 == b.f4 && ((pkgB a.f0).toList == (pkgB b.f0).toList)
theorem together_any (w : World) (x y : S44) (v1 v2 v5 u1 u2 u5 : Value) (x3 y3 : Value) (hx : x.f0.size < 4611686018427387904) (hy : y.f0.size < 4611686018427387904) :
    Calls Tryd.prog 34 #[.agg #[.string x.f0, v1, v2, x3, .int .i64 x.f4, v5], .agg #[.string y.f0, u1, u2, y3, .int .i64 y.f4, u5]] w fun e w' => e = .returned (.bool (tog x y)) ∧ Below w.heap.size w w' := by
  have PX := Lib.hid (package_any x.f0 hx)
  have PY := Lib.hid (package_any y.f0 hy)
  by_cases h4 : x.f4 = y.f4
  · have e4 : (x.f4 == y.f4) = true := beq_iff_eq.2 h4
    have hT : Hid (tog x y = ((pkgB x.f0).toList == (pkgB y.f0).toList)) := Lib.hid (by unfold tog; rw [e4]; rfl)
    clear h4
    go_enter Tryd.func34, Tryd.ntmps34
    go_wp2
    go_quiet (first | (go_at_call 39; exact Calls.quiet_of_same (PX.out _)) | (go_at_call 39; exact Calls.quiet_of_same (PY.out _)))
    go_wp2
    go_ret
    exact ⟨by rw [hT.out]; rfl, by repeat (first | exact Below.refl _ _ | apply pw_below_drewN | apply below_drew1 | refine below_alloc ?_ _)⟩
  · have e4 : (x.f4 == y.f4) = false := beq_eq_false_iff_ne.2 h4
    have hT : Hid (tog x y = false) := Lib.hid (by unfold tog; rw [e4]; rfl)
    go_enter Tryd.func34, Tryd.ntmps34
    go_wp2
    go_region
    all_goals go_wp2
    all_goals go_ret
    all_goals exact ⟨by rw [hT.out]; rfl, by repeat (first | exact Below.refl _ _ | apply below_drew1 | refine below_alloc ?_ _)⟩
theorem samePackage_any (w : World) (g : Nat) (es : List Ent) (hq : WOK w g es) (a b : Int) :
    Calls Tryd.prog 20 #[.pointer (some ⟨g, 0, none⟩), .int .i64 a, .int .i64 b] w fun e w' => e = .returned (.bool (inB es a && inB es b && tog (ent es a).c (ent es b).c)) ∧ Below w.heap.size w w' := by
  by_cases ha : 0 ≤ a ∧ a < es.length
  · have ea : Hid (inB es a = true) := Lib.hid (decide_eq_true ha)
    obtain ⟨p, A2, c2, A5, c5, A8, c8, hp, _, _, _, _, _, _, HA⟩ := at_in hq ha.1 ha.2
    by_cases hb : 0 ≤ b ∧ b < es.length
    · have eb : Hid (inB es b = true) := Lib.hid (decide_eq_true hb)
      obtain ⟨q, B2, d2, B5, d5, B8, d8, hpq, _, _, _, _, _, _, HB⟩ := at_in hq hb.1 hb.2
      have sx : (ent es a).c.f0.size < 4611686018427387904 := (hq.fine _ (List.mem_of_getElem? (get_ent ha.1 ha.2))).2.1
      have sy : (ent es b).c.f0.size < 4611686018427387904 := (hq.fine _ (List.mem_of_getElem? (get_ent hb.1 hb.2))).2.1
      generalize ent es a = x at *
      generalize ent es b = y at *
      replace hp := Lib.hid hp
      replace hpq := Lib.hid hpq
      replace HA := Lib.hid HA
      replace HB := Lib.hid HB
      clear hq ha hb
      have CA := Lib.hid (HA.out w (Below.refl _ _))
      go_enter Tryd.func20, Tryd.ntmps20
      go_wp2_with fail
      refine CA.out.mono ?_
      rintro e w1 ⟨rfl, hb1⟩
      have CB := Lib.hid (HB.out w1 hb1)
      replace hb1 := Lib.hid hb1
      go_wp2_with fail
      refine CB.out.mono ?_
      rintro e w2 ⟨rfl, hb2⟩
      have hbw := Lib.hid (hb1.out.trans (hb2.mono hb1.out.size))
      have D := blk_below hp.out hbw.out
      have E := blk_below hpq.out hbw.out
      have p0 : w2.cell? ⟨p, 0, none⟩ = some (.string x.c.f0) := (blk_cell D 0).trans rfl
      have p1 : w2.cell? ⟨p, 1, none⟩ = some (.string x.c.f1) := (blk_cell D 1).trans rfl
      have p2 : w2.cell? ⟨p, 2, none⟩ = some (.slice A2 x.c.f2.length c2) := (blk_cell D 2).trans rfl
      have p3 : w2.cell? ⟨p, 3, none⟩ = some (.int .i64 x.c.f3) := (blk_cell D 3).trans rfl
      have p4 : w2.cell? ⟨p, 4, none⟩ = some (.int .i64 x.c.f4) := (blk_cell D 4).trans rfl
      have p5 : w2.cell? ⟨p, 5, none⟩ = some (.slice A5 x.c.f5.length c5) := (blk_cell D 5).trans rfl
      have q0 : w2.cell? ⟨q, 0, none⟩ = some (.string y.c.f0) := (blk_cell E 0).trans rfl
      have q1 : w2.cell? ⟨q, 1, none⟩ = some (.string y.c.f1) := (blk_cell E 1).trans rfl
      have q2 : w2.cell? ⟨q, 2, none⟩ = some (.slice B2 y.c.f2.length d2) := (blk_cell E 2).trans rfl
      have q3 : w2.cell? ⟨q, 3, none⟩ = some (.int .i64 y.c.f3) := (blk_cell E 3).trans rfl
      have q4 : w2.cell? ⟨q, 4, none⟩ = some (.int .i64 y.c.f4) := (blk_cell E 4).trans rfl
      have q5 : w2.cell? ⟨q, 5, none⟩ = some (.slice B5 y.c.f5.length d5) := (blk_cell E 5).trans rfl
      have TG := Lib.hid (fun W => together_any W x.c y.c (.string x.c.f1) (.slice A2 x.c.f2.length c2) (.slice A5 x.c.f5.length c5) (.string y.c.f1) (.slice B2 y.c.f2.length d2) (.slice B5 y.c.f5.length d5) (.int .i64 x.c.f3) (.int .i64 y.c.f3) sx sy)
      clear CA CB hb1 hb2 D E HA HB
      go_wp2
      go_region_held3 (fun w' => w'.cell? ⟨p, 0, none⟩ = some (.string x.c.f0) ∧ w'.cell? ⟨p, 1, none⟩ = some (.string x.c.f1) ∧ w'.cell? ⟨p, 2, none⟩ = some (.slice A2 x.c.f2.length c2) ∧ w'.cell? ⟨p, 3, none⟩ = some (.int .i64 x.c.f3) ∧ w'.cell? ⟨p, 4, none⟩ = some (.int .i64 x.c.f4) ∧ w'.cell? ⟨p, 5, none⟩ = some (.slice A5 x.c.f5.length c5) ∧
        w'.cell? ⟨q, 0, none⟩ = some (.string y.c.f0) ∧ w'.cell? ⟨q, 1, none⟩ = some (.string y.c.f1) ∧ w'.cell? ⟨q, 2, none⟩ = some (.slice B2 y.c.f2.length d2) ∧ w'.cell? ⟨q, 3, none⟩ = some (.int .i64 y.c.f3) ∧ w'.cell? ⟨q, 4, none⟩ = some (.int .i64 y.c.f4) ∧ w'.cell? ⟨q, 5, none⟩ = some (.slice B5 y.c.f5.length d5)) (first | go_keep | (refine ⟨?_, ?_, ?_, ?_, ?_, ?_, ?_, ?_, ?_, ?_, ?_, ?_⟩ <;> exact pw_cell_below hb3.out (by assumption)))
        (first | (go_at_call 34; refine (TG.out _).mono ?_; rintro e w3 ⟨rfl, hb3⟩; replace hb3 := Lib.hid hb3))
      go_wp2
      go_ret
      exact ⟨by rw [ea.out, eb.out]; rfl, hbw.out.trans ((below_drew1 (Below.refl _ _)).trans (hb3.out.mono (Nat.le_refl _)) |>.mono hbw.out.size)⟩
    · have eb : Hid (inB es b = false) := Lib.hid (decide_eq_false hb)
      have HB := Lib.hid (at_out hq hb)
      replace HA := Lib.hid HA
      clear hq ha hb hp
      have CA := Lib.hid (HA.out w (Below.refl _ _))
      go_enter Tryd.func20, Tryd.ntmps20
      go_wp2_with fail
      refine CA.out.mono ?_
      rintro e w1 ⟨rfl, hb1⟩
      have CB := Lib.hid (HB.out w1 hb1)
      replace hb1 := Lib.hid hb1
      go_wp2_with fail
      refine CB.out.mono ?_
      rintro e w2 ⟨rfl, hb2⟩
      have hbw := Lib.hid (hb1.out.trans (hb2.mono hb1.out.size))
      clear CA CB hb1 hb2 HA HB
      go_wp2
      go_region
      all_goals go_wp2
      all_goals go_ret
      all_goals exact ⟨by rw [ea.out, eb.out]; rfl, below_drew1 hbw.out⟩
  · have ea : Hid (inB es a = false) := Lib.hid (decide_eq_false ha)
    have HA := Lib.hid (at_out hq ha)
    obtain ⟨pv, HB⟩ : ∃ pv : Option Nat, ∀ W, Below w.heap.size w W → Calls Tryd.prog 32 #[.pointer (some ⟨g, 0, none⟩), .int .i64 b] W fun e w' => e = .returned (.pointer (pv.map fun p => ⟨p, 0, none⟩)) ∧ Below W.heap.size W w' := by
      by_cases hb : 0 ≤ b ∧ b < es.length
      · obtain ⟨q, B2, d2, B5, d5, B8, d8, hpq, _, _, _, _, _, _, HB⟩ := at_in hq hb.1 hb.2
        exact ⟨some q, HB⟩
      · exact ⟨none, at_out hq hb⟩
    replace HB := Lib.hid HB
    clear hq ha
    have CA := Lib.hid (HA.out w (Below.refl _ _))
    go_enter Tryd.func20, Tryd.ntmps20
    go_wp2_with fail
    refine CA.out.mono ?_
    rintro e w1 ⟨rfl, hb1⟩
    have CB := Lib.hid (HB.out w1 hb1)
    replace hb1 := Lib.hid hb1
    go_wp2_with fail
    refine CB.out.mono ?_
    rintro e w2 ⟨rfl, hb2⟩
    have hbw := Lib.hid (hb1.out.trans (hb2.mono hb1.out.size))
    clear CA CB hb1 hb2 HA HB
    go_wp2
    go_region
    all_goals go_wp2
    all_goals go_ret
    all_goals exact ⟨by rw [ea.out]; rfl, below_drew1 hbw.out⟩
end Go.Proofs.YtmlifggklaeieaaDoor.Hi

/- hier.World.Method: the method of a number. -/
namespace Go.Proofs.YtmlifggklaeieaaDoor.Hi
open Go Go.RowKit Go.Proofs.YtmlifggklaeieaaDoorW.PrintWords Go.Proofs.YtmlifggklaeieaaDoorW.PrintLast Go.Proofs.YtmlifggklaeieaaDoorW.PrintMore Go.Proofs.YtmlifggklaeieaaDoor.Pt
set_option linter.unusedVariables false
set_option linter.unusedSimpArgs false
set_option maxHeartbeats 2000000
set_option maxRecDepth 100000

/-- Is it the number of a method? -/
def inM (es : List Ent) (c i : Int) : Bool := inB es c && decide (0 ≤ i ∧ i < (ent es c).c.f5.length)
def methF (es : List Ent) (c i : Int) : S51 × Int := if inM es c i then (rd_T51 (ent es c).c.f5 i, 0) else (z51, 3)
theorem method_in (w : World) (g : Nat) (es : List Ent) (hq : WOK w g es) (mc mi : Int) (h0 : 0 ≤ mc) (h1 : mc < es.length) (i0 : 0 ≤ mi) (i1 : mi < (ent es mc).c.f5.length) :
    Calls Tryd.prog 21 #[.pointer (some ⟨g, 0, none⟩), .agg #[.int .i64 mc, .int .i64 mi]] w fun e w' => ∃ v5, e = .returned (.tuple #[.agg #[.string (methF es mc mi).1.f0, .string (methF es mc mi).1.f1, .int .i64 (methF es mc mi).1.f2, .int .i64 (methF es mc mi).1.f3, .int .i64 (methF es mc mi).1.f4, v5], .int .i64 (methF es mc mi).2]) ∧ Kd.R k83 83 w' w.heap.size (fun _ => True) v5 (methF es mc mi).1.f5 ∧ Below w.heap.size w w' := by
  obtain ⟨p, A2, c2, A5, c5, A8, c8, hp, _, _, hl5, g5, _, _, HA⟩ := at_in hq h0 h1
  have hM : Hid (methF es mc mi = (rd_T51 (ent es mc).c.f5 mi, 0)) := Lib.hid (if_pos (by simp [inM, inB, h0, h1, i0, i1]))
  have hsh := Lib.hid ((hq.small _ (List.mem_of_getElem? (get_ent h0 h1))).2.2 (rd_T51 (ent es mc).c.f5 mi) (by
    unfold rd_T51
    rw [List.getD_eq_getElem?_getD, List.getElem?_eq_getElem (by omega)]
    exact List.getElem_mem _))
  rw [hM.out]
  generalize ent es mc = x at *
  obtain ⟨ad, A6, c6, rfl, m0, m1, m2, m3, m4, m5, hl6, g6⟩ := at_T51 g5 mi i0 i1
  generalize rd_T51 x.c.f5 mi = y at *
  have T := Lib.hid (heap_alloc2_old w (.cells #[.int .i64 mc, .int .i64 mi] 31) (.cells #[.string ⟨#[]⟩, .string ⟨#[]⟩, .int .i64 0, .int .i64 0, .int .i64 0, .slice none 0 0] 51))
  have U := Lib.hid (heap_alloc2_new w (.cells #[.int .i64 mc, .int .i64 mi] 31) (.cells #[.string ⟨#[]⟩, .string ⟨#[]⟩, .int .i64 0, .int .i64 0, .int .i64 0, .slice none 0 0] 51))
  have BB := Lib.hid (((Below.refl w.heap.size w).alloc (Nat.le_refl _) (.cells #[.int .i64 mc, .int .i64 mi] 31)).alloc (by simp) (.cells #[.string ⟨#[]⟩, .string ⟨#[]⟩, .int .i64 0, .int .i64 0, .int .i64 0, .slice none 0 0] 51))
  have CA := Lib.hid (HA _ BB.out)
  have hUs := Lib.hid (blk_lt U.out)
  have hpl : p < w.heap.size := blk_lt hp
  have hadl : ad.block < w.heap.size := by
    have := World.block_lt_of_cell? _ _ m0
    rwa [add_block] at this
  replace hp := Lib.hid hp
  have HM := Lib.hid (And.intro m0 (And.intro m1 (And.intro m2 (And.intro m3 (And.intro m4 m5)))))
  replace g6 := Lib.hid g6
  have hd0 : decide (mi < 0) = false := decide_eq_false (by omega)
  have hd1 : decide (mi ≥ (x.c.f5.length : Int)) = false := decide_eq_false (by omega)
  clear HA hq g5 m0 m1 m2 m3 m4 m5
  go_enter Tryd.func21, Tryd.ntmps21
  go_wp2_with fail
  refine CA.out.mono ?_
  rintro e w1 ⟨rfl, hb1⟩
  have hbw := Lib.hid (BB.out.trans (hb1.mono BB.out.size))
  have hUs := Lib.hid (Nat.lt_of_lt_of_le hUs.out hb1.size)
  have D := blk_below T.out hb1
  have E := blk_below U.out hb1
  have P := blk_below hp.out hbw.out
  have q0 : w1.cell? ⟨w.heap.size, 0, none⟩ = some (.int .i64 mc) := (blk_cell D 0).trans rfl
  have q1 : w1.cell? ⟨w.heap.size, 1, none⟩ = some (.int .i64 mi) := (blk_cell D 1).trans rfl
  have p5 : w1.cell? ⟨p, 5, none⟩ = some (.slice (some ad) x.c.f5.length c5) := (blk_cell P 5).trans rfl
  have D := Lib.hid D
  have E := Lib.hid E
  clear CA hb1 P T U BB
  go_wp2
  go_region
  go_wp2_with fail
  obtain ⟨m0, m1, m2, m3, m4, m5⟩ := HM.out
  replace hbw := Lib.hid (below_drew1 hbw.out)
  have D := Lib.hid (blk_drew D.out)
  have E := Lib.hid (blk_drew E.out)
  have q1 : w1.drew.cell? ⟨w.heap.size, 1, none⟩ = some (.int .i64 mi) := q1
  have p5 : w1.drew.cell? ⟨p, 5, none⟩ = some (.slice (some ad) x.c.f5.length c5) := p5
  have hWs : Hid (w.heap.size + 1 < w1.drew.heap.size) := Lib.hid hUs.out
  clear hUs
  generalize w1.drew = W at *
  replace m0 := pw_cell_below hbw.out m0
  replace m1 := pw_cell_below hbw.out m1
  replace m2 := pw_cell_below hbw.out m2
  replace m3 := pw_cell_below hbw.out m3
  replace m4 := pw_cell_below hbw.out m4
  replace m5 := pw_cell_below hbw.out m5
  have n1 := World.new_ne W _ q1
  have n2 := World.new_ne W _ p5
  have n3 := World.new_ne W _ m0
  have i1b : mi < (x.c.f5.length : Int) := i1
  clear q0 hd0 hd1
  go_region_held3 (fun w' => w'.cell? ⟨w.heap.size, 1, none⟩ = some (.int .i64 mi) ∧ w'.cell? ⟨p, 5, none⟩ = some (.slice (some ad) x.c.f5.length c5) ∧ w'.cell? (ad.add (mi.toNat * 6)) = some (.string y.f0) ∧ w'.cell? ⟨(ad.add (mi.toNat * 6)).block, (ad.add (mi.toNat * 6)).off + 1, none⟩ = some (.string y.f1) ∧ w'.cell? ⟨(ad.add (mi.toNat * 6)).block, (ad.add (mi.toNat * 6)).off + 2, none⟩ = some (.int .i64 y.f2) ∧
      w'.cell? ⟨(ad.add (mi.toNat * 6)).block, (ad.add (mi.toNat * 6)).off + 3, none⟩ = some (.int .i64 y.f3) ∧ w'.cell? ⟨(ad.add (mi.toNat * 6)).block, (ad.add (mi.toNat * 6)).off + 4, none⟩ = some (.int .i64 y.f4) ∧ w'.cell? ⟨(ad.add (mi.toNat * 6)).block, (ad.add (mi.toNat * 6)).off + 5, none⟩ = some (.slice A6 y.f5.length c6)) (go_keep) (fail)
  have X := Lib.hid (blk_drew (blk_new W (.cells #[.string y.f0, .string y.f1, .int .i64 y.f2, .int .i64 y.f3, .int .i64 y.f4, .slice A6 y.f5.length c6] 51)))
  have AB : Hid (Below W.heap.size W (W.alloc (.cells #[.string y.f0, .string y.f1, .int .i64 y.f2, .int .i64 y.f3, .int .i64 y.f4, .slice A6 y.f5.length c6] 51)).drew) := Lib.hid (below_drew1 ((Below.refl _ _).alloc (Nat.le_refl _) _))
  generalize (W.alloc (.cells #[.string y.f0, .string y.f1, .int .i64 y.f2, .int .i64 y.f3, .int .i64 y.f4, .slice A6 y.f5.length c6] 51)).drew = V at *
  have hbv := Lib.hid (hbw.out.trans (AB.out.mono hbw.out.size))
  have E := Lib.hid (blk_below E.out AB.out)
  have CL := Lib.hid (cloneInst A6 c6 y.f5 V (Kd.C_below g6.out hbv.out) hsh.out)
  have x5 : V.cell? ⟨W.heap.size, 5, none⟩ = some (.slice A6 y.f5.length c6) := (blk_cell X.out 5).trans rfl
  clear m0 m1 m2 m3 m4 m5 n1 n2 n3 q1 p5 D AB
  go_wp2_with fail
  refine CL.out.mono ?_
  rintro e V1 ⟨v5, rfl, R5, hb3⟩
  obtain ⟨A7, c7, rfl⟩ := Kd.R_slice R5
  have X1 := blk_below X.out hb3
  have E1 := blk_below E.out hb3
  have hb4 := hbv.out.trans (hb3.mono hbv.out.size)
  have x0 : V1.cell? ⟨W.heap.size, 0, none⟩ = some (.string y.f0) := (blk_cell X1 0).trans rfl
  have x1 : V1.cell? ⟨W.heap.size, 1, none⟩ = some (.string y.f1) := (blk_cell X1 1).trans rfl
  have x2 : V1.cell? ⟨W.heap.size, 2, none⟩ = some (.int .i64 y.f2) := (blk_cell X1 2).trans rfl
  have x3 : V1.cell? ⟨W.heap.size, 3, none⟩ = some (.int .i64 y.f3) := (blk_cell X1 3).trans rfl
  have x4 : V1.cell? ⟨W.heap.size, 4, none⟩ = some (.int .i64 y.f4) := (blk_cell X1 4).trans rfl
  have x5 : V1.cell? ⟨W.heap.size, 5, none⟩ = some (.slice A6 y.f5.length c6) := (blk_cell X1 5).trans rfl
  have xf := blk_frozen X1 5
  have z0 : V1.cell? ⟨w.heap.size + 1, 0, none⟩ = some (.string ⟨#[]⟩) := (blk_cell E1 0).trans rfl
  have z1 : V1.cell? ⟨w.heap.size + 1, 1, none⟩ = some (.string ⟨#[]⟩) := (blk_cell E1 1).trans rfl
  have z2 : V1.cell? ⟨w.heap.size + 1, 2, none⟩ = some (.int .i64 0) := (blk_cell E1 2).trans rfl
  have z3 : V1.cell? ⟨w.heap.size + 1, 3, none⟩ = some (.int .i64 0) := (blk_cell E1 3).trans rfl
  have z4 : V1.cell? ⟨w.heap.size + 1, 4, none⟩ = some (.int .i64 0) := (blk_cell E1 4).trans rfl
  have z5 : V1.cell? ⟨w.heap.size + 1, 5, none⟩ = some (.slice none 0 0) := (blk_cell E1 5).trans rfl
  have f0 := blk_frozen E1 0
  have f1 := blk_frozen E1 1
  have f2 := blk_frozen E1 2
  have f3 := blk_frozen E1 3
  have f4 := blk_frozen E1 4
  have f5 := blk_frozen E1 5
  have hne : W.heap.size ≠ w.heap.size + 1 := by have := hWs.out; omega
  have E2 := blk_far (p := ⟨W.heap.size, 5, none⟩) E1 (Ne.symm hne) (.slice A7 y.f5.length c7)
  have R6 := Kd.R_set (Kd.R_lower R5 hbv.out.size) X1 (by decide) 5 (.slice A7 y.f5.length c7)
  have TX := Lib.hid (blk_set6 E2 (.string y.f0) (.string y.f1) (.int .i64 y.f2) (.int .i64 y.f3) (.int .i64 y.f4) (.slice A7 y.f5.length c7))
  have TR := Lib.hid (R_set6 R6 E2 (by decide) (.string y.f0) (.string y.f1) (.int .i64 y.f2) (.int .i64 y.f3) (.int .i64 y.f4) (.slice A7 y.f5.length c7))
  have TB := Lib.hid (below_set6 (hb4.setCell (p := ⟨W.heap.size, 5, none⟩) (by have := hWs.out; show w.heap.size ≤ W.heap.size; omega) (.slice A7 y.f5.length c7)) (g := w.heap.size + 1) (Nat.le_succ _) (.string y.f0) (.string y.f1) (.int .i64 y.f2) (.int .i64 y.f3) (.int .i64 y.f4) (.slice A7 y.f5.length c7))
  clear X1 E1 E2 R6 R5 hb3 hb4 CL
  go_wp2
  exact bodyPost_ret (results_ct rfl _ _ (w.heap.size + 1) 51 _ (0, 0) _ rfl TX.out Tryd.underlying51 rfl (by kernel_rfl)) rfl ⟨_, rfl, TR.out, TB.out⟩
theorem method_out (w : World) (g : Nat) (es : List Ent) (hq : WOK w g es) (mc mi : Int) (hno : inM es mc mi = false) :
    Calls Tryd.prog 21 #[.pointer (some ⟨g, 0, none⟩), .agg #[.int .i64 mc, .int .i64 mi]] w fun e w' => ∃ v5, e = .returned (.tuple #[.agg #[.string (methF es mc mi).1.f0, .string (methF es mc mi).1.f1, .int .i64 (methF es mc mi).1.f2, .int .i64 (methF es mc mi).1.f3, .int .i64 (methF es mc mi).1.f4, v5], .int .i64 (methF es mc mi).2]) ∧ Kd.R k83 83 w' w.heap.size (fun _ => True) v5 (methF es mc mi).1.f5 ∧ Below w.heap.size w w' := by
  have hM : Hid (methF es mc mi = (z51, 3)) := Lib.hid (by unfold methF; rw [hno]; rfl)
  rw [hM.out]
  have T := Lib.hid (heap_alloc2_old w (.cells #[.int .i64 mc, .int .i64 mi] 31) (.cells #[.string ⟨#[]⟩, .string ⟨#[]⟩, .int .i64 0, .int .i64 0, .int .i64 0, .slice none 0 0] 51))
  have U := Lib.hid (heap_alloc2_new w (.cells #[.int .i64 mc, .int .i64 mi] 31) (.cells #[.string ⟨#[]⟩, .string ⟨#[]⟩, .int .i64 0, .int .i64 0, .int .i64 0, .slice none 0 0] 51))
  have BB := Lib.hid (((Below.refl w.heap.size w).alloc (Nat.le_refl _) (.cells #[.int .i64 mc, .int .i64 mi] 31)).alloc (by simp) (.cells #[.string ⟨#[]⟩, .string ⟨#[]⟩, .int .i64 0, .int .i64 0, .int .i64 0, .slice none 0 0] 51))
  by_cases hc : 0 ≤ mc ∧ mc < es.length
  · obtain ⟨p, A2, c2, A5, c5, A8, c8, hp, _, _, hl5, g5, _, _, HA⟩ := at_in hq hc.1 hc.2
    have hx : ¬ (0 ≤ mi ∧ mi < ((ent es mc).c.f5.length : Int)) := by simpa [inM, inB, hc.1, hc.2] using hno
    generalize ent es mc = x at *
    have CA := Lib.hid (HA _ BB.out)
    replace hp := Lib.hid hp
    clear HA hq g5 hno
    by_cases hi : mi < 0
    · have hd0 : decide (mi < 0) = true := decide_eq_true hi
      clear hx
      go_enter Tryd.func21, Tryd.ntmps21
      go_wp2_with fail
      refine CA.out.mono ?_
      rintro e w1 ⟨rfl, hb1⟩
      have hbw := Lib.hid (BB.out.trans (hb1.mono BB.out.size))
      have D := blk_below T.out hb1
      have E := blk_below U.out hb1
      have q0 : w1.cell? ⟨w.heap.size, 0, none⟩ = some (.int .i64 mc) := (blk_cell D 0).trans rfl
      have q1 : w1.cell? ⟨w.heap.size, 1, none⟩ = some (.int .i64 mi) := (blk_cell D 1).trans rfl
      replace hbw := Lib.hid (below_drew1 hbw.out)
      replace E := blk_drew E
      clear CA hb1 hp T U BB D
      go_wp2
      go_region
      generalize w1.drew = W at *
      have z0 : W.cell? ⟨w.heap.size + 1, 0, none⟩ = some (.string ⟨#[]⟩) := (blk_cell E 0).trans rfl
      have z1 : W.cell? ⟨w.heap.size + 1, 1, none⟩ = some (.string ⟨#[]⟩) := (blk_cell E 1).trans rfl
      have z2 : W.cell? ⟨w.heap.size + 1, 2, none⟩ = some (.int .i64 0) := (blk_cell E 2).trans rfl
      have z3 : W.cell? ⟨w.heap.size + 1, 3, none⟩ = some (.int .i64 0) := (blk_cell E 3).trans rfl
      have z4 : W.cell? ⟨w.heap.size + 1, 4, none⟩ = some (.int .i64 0) := (blk_cell E 4).trans rfl
      have z5 : W.cell? ⟨w.heap.size + 1, 5, none⟩ = some (.slice none 0 0) := (blk_cell E 5).trans rfl
      have f0 := blk_frozen E 0
      have f1 := blk_frozen E 1
      have f2 := blk_frozen E 2
      have f3 := blk_frozen E 3
      have f4 := blk_frozen E 4
      have f5 := blk_frozen E 5
      have TX := Lib.hid (blk_set6 E (.string ⟨#[]⟩) (.string ⟨#[]⟩) (.int .i64 0) (.int .i64 0) (.int .i64 0) (.slice none 0 0))
      have TB := Lib.hid (below_set6 hbw.out (g := w.heap.size + 1) (Nat.le_succ _) (.string ⟨#[]⟩) (.string ⟨#[]⟩) (.int .i64 0) (.int .i64 0) (.int .i64 0) (.slice none 0 0))
      clear E
      go_wp2
      exact bodyPost_ret (results_ct rfl _ _ (w.heap.size + 1) 51 _ (0, 0) _ rfl TX.out Tryd.underlying51 rfl (by kernel_rfl)) rfl ⟨_, rfl, Kd.R_nil _ _ _ _ _, TB.out⟩
    · have hd0 : decide (mi < 0) = false := decide_eq_false hi
      have hd1 : decide (mi ≥ (x.c.f5.length : Int)) = true := decide_eq_true (by omega)
      clear hx
      go_enter Tryd.func21, Tryd.ntmps21
      go_wp2_with fail
      refine CA.out.mono ?_
      rintro e w1 ⟨rfl, hb1⟩
      have hbw := Lib.hid (BB.out.trans (hb1.mono BB.out.size))
      have D := blk_below T.out hb1
      have E := blk_below U.out hb1
      have P := blk_below hp.out hbw.out
      have q0 : w1.cell? ⟨w.heap.size, 0, none⟩ = some (.int .i64 mc) := (blk_cell D 0).trans rfl
      have q1 : w1.cell? ⟨w.heap.size, 1, none⟩ = some (.int .i64 mi) := (blk_cell D 1).trans rfl
      have p5 : w1.cell? ⟨p, 5, none⟩ = some (.slice A5 x.c.f5.length c5) := (blk_cell P 5).trans rfl
      replace hbw := Lib.hid (below_drew1 hbw.out)
      replace E := blk_drew E
      clear CA hb1 hp T U BB D P
      go_wp2
      go_region
      generalize w1.drew = W at *
      have z0 : W.cell? ⟨w.heap.size + 1, 0, none⟩ = some (.string ⟨#[]⟩) := (blk_cell E 0).trans rfl
      have z1 : W.cell? ⟨w.heap.size + 1, 1, none⟩ = some (.string ⟨#[]⟩) := (blk_cell E 1).trans rfl
      have z2 : W.cell? ⟨w.heap.size + 1, 2, none⟩ = some (.int .i64 0) := (blk_cell E 2).trans rfl
      have z3 : W.cell? ⟨w.heap.size + 1, 3, none⟩ = some (.int .i64 0) := (blk_cell E 3).trans rfl
      have z4 : W.cell? ⟨w.heap.size + 1, 4, none⟩ = some (.int .i64 0) := (blk_cell E 4).trans rfl
      have z5 : W.cell? ⟨w.heap.size + 1, 5, none⟩ = some (.slice none 0 0) := (blk_cell E 5).trans rfl
      have f0 := blk_frozen E 0
      have f1 := blk_frozen E 1
      have f2 := blk_frozen E 2
      have f3 := blk_frozen E 3
      have f4 := blk_frozen E 4
      have f5 := blk_frozen E 5
      have TX := Lib.hid (blk_set6 E (.string ⟨#[]⟩) (.string ⟨#[]⟩) (.int .i64 0) (.int .i64 0) (.int .i64 0) (.slice none 0 0))
      have TB := Lib.hid (below_set6 hbw.out (g := w.heap.size + 1) (Nat.le_succ _) (.string ⟨#[]⟩) (.string ⟨#[]⟩) (.int .i64 0) (.int .i64 0) (.int .i64 0) (.slice none 0 0))
      clear E
      go_wp2
      exact bodyPost_ret (results_ct rfl _ _ (w.heap.size + 1) 51 _ (0, 0) _ rfl TX.out Tryd.underlying51 rfl (by kernel_rfl)) rfl ⟨_, rfl, Kd.R_nil _ _ _ _ _, TB.out⟩
  · have CA := Lib.hid (at_out hq hc _ BB.out)
    clear hq hno
    go_enter Tryd.func21, Tryd.ntmps21
    go_wp2_with fail
    refine CA.out.mono ?_
    rintro e w1 ⟨rfl, hb1⟩
    have hbw := Lib.hid (BB.out.trans (hb1.mono BB.out.size))
    have D := blk_below T.out hb1
    have E := blk_below U.out hb1
    replace hbw := Lib.hid (below_drew1 hbw.out)
    replace E := blk_drew E
    clear CA hb1 T U BB D
    go_wp2
    go_region
    generalize w1.drew = W at *
    have z0 : W.cell? ⟨w.heap.size + 1, 0, none⟩ = some (.string ⟨#[]⟩) := (blk_cell E 0).trans rfl
    have z1 : W.cell? ⟨w.heap.size + 1, 1, none⟩ = some (.string ⟨#[]⟩) := (blk_cell E 1).trans rfl
    have z2 : W.cell? ⟨w.heap.size + 1, 2, none⟩ = some (.int .i64 0) := (blk_cell E 2).trans rfl
    have z3 : W.cell? ⟨w.heap.size + 1, 3, none⟩ = some (.int .i64 0) := (blk_cell E 3).trans rfl
    have z4 : W.cell? ⟨w.heap.size + 1, 4, none⟩ = some (.int .i64 0) := (blk_cell E 4).trans rfl
    have z5 : W.cell? ⟨w.heap.size + 1, 5, none⟩ = some (.slice none 0 0) := (blk_cell E 5).trans rfl
    have f0 := blk_frozen E 0
    have f1 := blk_frozen E 1
    have f2 := blk_frozen E 2
    have f3 := blk_frozen E 3
    have f4 := blk_frozen E 4
    have f5 := blk_frozen E 5
    have TX := Lib.hid (blk_set6 E (.string ⟨#[]⟩) (.string ⟨#[]⟩) (.int .i64 0) (.int .i64 0) (.int .i64 0) (.slice none 0 0))
    have TB := Lib.hid (below_set6 hbw.out (g := w.heap.size + 1) (Nat.le_succ _) (.string ⟨#[]⟩) (.string ⟨#[]⟩) (.int .i64 0) (.int .i64 0) (.int .i64 0) (.slice none 0 0))
    clear E
    go_wp2
    exact bodyPost_ret (results_ct rfl _ _ (w.heap.size + 1) 51 _ (0, 0) _ rfl TX.out Tryd.underlying51 rfl (by kernel_rfl)) rfl ⟨_, rfl, Kd.R_nil _ _ _ _ _, TB.out⟩
end Go.Proofs.YtmlifggklaeieaaDoor.Hi

/- hier.World.Extends: whether b is above a, or a itself. -/
namespace Go.Proofs.YtmlifggklaeieaaDoor.Hi
open Go Go.RowKit Go.Proofs.YtmlifggklaeieaaDoorW.PrintWords Go.Proofs.YtmlifggklaeieaaDoorW.PrintLast Go.Proofs.YtmlifggklaeieaaDoorW.PrintMore Go.Proofs.YtmlifggklaeieaaDoor.Pt
set_option linter.unusedVariables false
set_option linter.unusedSimpArgs false
set_option maxHeartbeats 2000000
set_option maxRecDepth 100000

/-- The block of an entry. -/
def EntAt (w : World) (es : List Ent) (i : Int) (p : Nat) : Prop := ∃ A2 c2 A5 c5 A8 c8, w.heap[p]? = some (.cells #[.string (ent es i).c.f0, .string (ent es i).c.f1, .slice A2 (ent es i).c.f2.length c2, .int .i64 (ent es i).c.f3, .int .i64 (ent es i).c.f4, .slice A5 (ent es i).c.f5.length c5, .int .i64 (ent es i).above, .int .i64 (ent es i).depth, .slice A8 (ent es i).clo.length c8] 77 (0, 0))
theorem EntAt.below {w w1 : World} {es : List Ent} {i : Int} {p : Nat} (h : EntAt w es i p) (hb : Below w.heap.size w w1) : EntAt w1 es i p := by
  obtain ⟨A2, c2, A5, c5, A8, c8, h⟩ := h
  exact ⟨A2, c2, A5, c5, A8, c8, blk_below h hb⟩
theorem EntAt.up {w : World} {es : List Ent} {i : Int} {p : Nat} (h : EntAt w es i p) : w.cell? ⟨p, 6, none⟩ = some (.int .i64 (ent es i).above) ∧ w.cell? ⟨p, 7, none⟩ = some (.int .i64 (ent es i).depth) := by
  obtain ⟨A2, c2, A5, c5, A8, c8, h⟩ := h
  exact ⟨(blk_cell h 6).trans rfl, (blk_cell h 7).trans rfl⟩
theorem climb_up {es : List Ent} (ht : Tree es) {c d : Int} (h0 : 0 ≤ c) (h1 : c < es.length) (hd : 0 ≤ d) (hg : (ent es c).depth > d) : 0 ≤ (ent es c).above ∧ (ent es c).above < c ∧ climb es es.length c d = climb es es.length (ent es c).above d := by
  rcases ht.at_ h0 h1 with ⟨_, hz⟩ | ⟨h2, h3, hz⟩
  · omega
  · refine ⟨h2, h3, ?_⟩
    obtain ⟨N, hN⟩ : ∃ N, es.length = N + 1 := ⟨es.length - 1, by omega⟩
    have hm := climb_more ht N (ent es c).above d h2 (by omega) hd (by have := (ht.depth_ h2 (by omega)).2; omega) 1
    rw [hN]
    rw [hm]
    show (if (ent es c).depth > d then climb es N (ent es c).above d else c) = _
    rw [if_pos hg]
theorem climb_end {es : List Ent} {c d : Int} (hg : ¬ (ent es c).depth > d) : ∀ N, climb es N c d = c
  | 0 => rfl
  | N + 1 => by
    show (if (ent es c).depth > d then climb es N (ent es c).above d else c) = _
    rw [if_neg hg]
theorem extends_any (w : World) (g : Nat) (es : List Ent) (hq : WOK w g es) (a b : Int) :
    Calls Tryd.prog 28 #[.pointer (some ⟨g, 0, none⟩), .int .i64 a, .int .i64 b] w fun e w' => e = .returned (.bool (extF es a b)) ∧ Below w.heap.size w w' := by
  generalize hV : extF es a b = V
  replace hV := Lib.hid hV
  by_cases ha : 0 ≤ a ∧ a < es.length
  · have ea : Hid (inB es a = true) := Lib.hid (decide_eq_true ha)
    obtain ⟨p, A2, c2, A5, c5, A8, c8, hp, _, _, _, _, _, ⟨base, R8⟩, HA⟩ := at_in hq ha.1 ha.2
    by_cases hb : 0 ≤ b ∧ b < es.length
    · have eb : Hid (inB es b = true) := Lib.hid (decide_eq_true hb)
      obtain ⟨q, B2, d2, B5, d5, B8, d8, hpq, _, _, _, _, _, _, HB⟩ := at_in hq hb.1 hb.2
      have EP : Hid (EntAt w es a p) := Lib.hid ⟨_, _, _, _, _, _, hp⟩
      have hcl := (hq.fine _ (List.mem_of_getElem? (get_ent ha.1 ha.2))).2.2
      have hp8 : w.cell? ⟨p, 8, none⟩ = some (.slice A8 (ent es a).clo.length c8) := (blk_cell hp 8).trans rfl
      have CT := Lib.hid (fun (W : World) (hb : Below w.heap.size w W) => contains_R (Kd.R_below R8 hb) (by omega) b)
      have HW := Lib.hid hq
      replace hpq := Lib.hid hpq
      replace HA := Lib.hid HA
      replace HB := Lib.hid HB
      replace hp8 := Lib.hid hp8
      have hX : Hid (extF es a b = (if isI (ent es b).c then (a == b || (ent es a).clo.contains b) else climb es es.length a (ent es b).depth == b)) := Lib.hid (by unfold extF; rw [ea.out, eb.out]; rfl)
      have hdb := Lib.hid (hq.tree.depth_ hb.1 hb.2)
      clear hq hp R8
      have CA := Lib.hid (HA.out w (Below.refl _ _))
      go_enter Tryd.func28, Tryd.ntmps28
      go_wp2_with fail
      refine CA.out.mono ?_
      rintro e w1 ⟨rfl, hb1⟩
      have CB := Lib.hid (HB.out w1 hb1)
      replace hb1 := Lib.hid hb1
      go_wp2_with fail
      refine CB.out.mono ?_
      rintro e w2 ⟨rfl, hb2⟩
      have hbw := Lib.hid (hb1.out.trans (hb2.mono hb1.out.size))
      have E := blk_below hpq.out hbw.out
      have q0 : w2.cell? ⟨q, 0, none⟩ = some (.string (ent es b).c.f0) := (blk_cell E 0).trans rfl
      have q1 : w2.cell? ⟨q, 1, none⟩ = some (.string (ent es b).c.f1) := (blk_cell E 1).trans rfl
      have q2 : w2.cell? ⟨q, 2, none⟩ = some (.slice B2 (ent es b).c.f2.length d2) := (blk_cell E 2).trans rfl
      have q3 : w2.cell? ⟨q, 3, none⟩ = some (.int .i64 (ent es b).c.f3) := (blk_cell E 3).trans rfl
      have q4 : w2.cell? ⟨q, 4, none⟩ = some (.int .i64 (ent es b).c.f4) := (blk_cell E 4).trans rfl
      have q5 : w2.cell? ⟨q, 5, none⟩ = some (.slice B5 (ent es b).c.f5.length d5) := (blk_cell E 5).trans rfl
      have IF := Lib.hid (iface_any w2 (.string (ent es b).c.f0) (.string (ent es b).c.f1) (.slice B2 (ent es b).c.f2.length d2) (.int .i64 (ent es b).c.f4) (.slice B5 (ent es b).c.f5.length d5) (ent es b).c.f3)
      clear CA CB hb1 hb2 E HA HB
      go_wp2_with fail
      refine IF.out.mono ?_
      rintro e w3 ⟨rfl, hb3⟩
      have hbw3 := Lib.hid (hbw.out.trans (hb3.mono hbw.out.size))
      clear IF hb3 q0 q1 q2 q3 q4 q5
      have p8 := pw_cell_below hbw3.out hp8.out
      by_cases hI : isI (ent es b).c = true
      · have hI2 : (Go.bits .and .i64 (ent es b).c.f3 512 != 0) = true := hI
        rw [hI2]
        have hR : Hid ((if isI (ent es b).c then (a == b || (ent es a).clo.contains b) else climb es es.length a (ent es b).depth == b) = (a == b || (ent es a).clo.contains b)) := Lib.hid (by rw [hI]; rfl)
        by_cases hab : a = b
        · have e1 : (a == b) = true := beq_iff_eq.2 hab
          clear hab
          go_wp2
          go_ret
          exact ⟨by rw [← hV.out, hX.out, hR.out, e1]; rfl, hbw3.out⟩
        · have e1 : (a == b) = false := beq_eq_false_iff_ne.2 hab
          have C2 := Lib.hid (CT.out w3 hbw3.out)
          go_wp2_with (go_at_call 41; refine C2.out.mono ?_; rintro e w4 ⟨rfl, rfl⟩)
          go_ret
          exact ⟨by rw [← hV.out, hX.out, hR.out, e1]; simp, hbw3.out⟩
      · have hI2 : (Go.bits .and .i64 (ent es b).c.f3 512 != 0) = false := by simpa [isI] using hI
        rw [hI2]
        have hR : Hid ((if isI (ent es b).c then (a == b || (ent es a).clo.contains b) else climb es es.length a (ent es b).depth == b) = (climb es es.length a (ent es b).depth == b)) := Lib.hid (by rw [show isI (ent es b).c = false from hI2]; rfl)
        have hq7 : Hid (w.cell? ⟨q, 7, none⟩ = some (.int .i64 (ent es b).depth)) := Lib.hid ((blk_cell hpq.out 7).trans rfl)
        clear CT hpq hp8 p8 hI hI2
        have hVV : Hid (V = (climb es es.length a (ent es b).depth == b)) := Lib.hid (by rw [← hV.out, hX.out, hR.out])
        clear hV hX hR
        generalize (ent es b).depth = d at *
        obtain ⟨hd0, _⟩ := hdb.out
        replace hd0 := Lib.hid hd0
        clear hdb
        have hgl := Lib.hid HW.out.inn
        go_wp2_with fail
        go_loopw [1, 7] (fun v1 v7 wr => ∃ (c : Int) (pc : Nat), v1 = .int .i64 c ∧ v7 = .pointer (some ⟨pc, 0, none⟩) ∧ Hid (0 ≤ c ∧ c < es.length) ∧ Hid (EntAt w es c pc) ∧ Hid (climb es es.length c d = climb es es.length a d) ∧ Hid (Below w.heap.size w wr)) (fun v1 _ _ => (intOf v1).toNat)
        case atStart => exact ⟨a, p, rfl, rfl, Lib.hid ha, EP, Lib.hid rfl, hbw3⟩
        case round =>
          clear EP hbw3 hbw ea
          obtain ⟨c, pc, rfl, rfl, hc, hE, hcl2, hbr⟩ := hrel
          obtain ⟨u6, u7⟩ := hE.out.up
          have hq7' := pw_cell_below hbr.out hq7.out
          have u6' := pw_cell_below hbr.out u6
          have u7' := pw_cell_below hbr.out u7
          by_cases hgt : (ent es c).depth > d
          · obtain ⟨n0, n1, n2⟩ := climb_up HW.out.tree hc.out.1 hc.out.2 hd0.out hgt
            have nlt := hc.out.2
            obtain ⟨base, v, mb, ps, h⟩ := hgl.out
            obtain ⟨Av, cv, rfl⟩ := Kd.R_slice h.row
            obtain ⟨hnl, ad, p2, A2', c2', A5', c5', A8', c8', rfl, hrow, hent, _, _, _⟩ := WIn_all_at h n0 (show (ent es c).above < es.length by omega)
            have hg0 : w.cell? ⟨g, 0, none⟩ = some (.slice (some ad) ps.length cv) := (blk_cell h.blk 0).trans rfl
            have hgt2 : decide ((ent es c).depth > d) = true := decide_eq_true hgt
            have EP2 : Hid (EntAt w es (ent es c).above p2) := Lib.hid ⟨_, _, _, _, _, _, hent⟩
            have hlt2 : (ent es c).above < (ps.length : Int) := by omega
            have nc : Hid (climb es es.length (ent es c).above d = climb es es.length a d) := Lib.hid (n2.symm.trans hcl2.out)
            have nr : Hid (0 ≤ (ent es c).above ∧ (ent es c).above < es.length) := Lib.hid ⟨n0, by omega⟩
            clear h hent n2 u6 u7 hE hcl2
            generalize (ent es c).above = ab at *
            generalize (ent es c).depth = dp at *
            have hg0' := pw_cell_below hbr.out hg0
            have hrow' := pw_cell_below hbr.out hrow
            replace hrow := Lib.hid hrow
            replace hg0 := Lib.hid hg0
            go_wp2
            go_region
            go_wp2
            refine ⟨⟨ab, p2, rfl, rfl, nr, EP2, nc, Lib.hid (below_drew1 hbr.out)⟩, by simp [intOf]; omega⟩
          · have hgt2 : decide ((ent es c).depth > d) = false := decide_eq_false hgt
            have he := Lib.hid (climb_end hgt es.length)
            clear u6 u7 hE hgt
            generalize (ent es c).depth = dp at *
            go_wp2
            go_region
            go_wp2
            go_ret
            exact ⟨by rw [hVV.out, ← hcl2.out, he.out]; rfl, below_drew1 hbr.out⟩
    · have eb : Hid (inB es b = false) := Lib.hid (decide_eq_false hb)
      have hX : Hid (V = false) := Lib.hid (by rw [← hV.out]; unfold extF; rw [ea.out, eb.out]; rfl)
      have HB := Lib.hid (at_out hq hb)
      replace HA := Lib.hid HA
      clear hq ha hb hp R8 hV
      have CA := Lib.hid (HA.out w (Below.refl _ _))
      go_enter Tryd.func28, Tryd.ntmps28
      go_wp2_with fail
      refine CA.out.mono ?_
      rintro e w1 ⟨rfl, hb1⟩
      have CB := Lib.hid (HB.out w1 hb1)
      replace hb1 := Lib.hid hb1
      go_wp2_with fail
      refine CB.out.mono ?_
      rintro e w2 ⟨rfl, hb2⟩
      have hbw := Lib.hid (hb1.out.trans (hb2.mono hb1.out.size))
      clear CA CB hb1 hb2 HA HB
      go_wp2
      go_ret
      exact ⟨by rw [hX.out]; rfl, hbw.out⟩
  · have ea : Hid (inB es a = false) := Lib.hid (decide_eq_false ha)
    have hX : Hid (V = false) := Lib.hid (by rw [← hV.out]; unfold extF; rw [ea.out]; rfl)
    have HA := Lib.hid (at_out hq ha)
    obtain ⟨pv, HB⟩ : ∃ pv : Option Nat, ∀ W, Below w.heap.size w W → Calls Tryd.prog 32 #[.pointer (some ⟨g, 0, none⟩), .int .i64 b] W fun e w' => e = .returned (.pointer (pv.map fun p => ⟨p, 0, none⟩)) ∧ Below W.heap.size W w' := by
      by_cases hb : 0 ≤ b ∧ b < es.length
      · obtain ⟨q, B2, d2, B5, d5, B8, d8, hpq, _, _, _, _, _, _, HB⟩ := at_in hq hb.1 hb.2
        exact ⟨some q, HB⟩
      · exact ⟨none, at_out hq hb⟩
    replace HB := Lib.hid HB
    clear hq ha hV
    have CA := Lib.hid (HA.out w (Below.refl _ _))
    go_enter Tryd.func28, Tryd.ntmps28
    go_wp2_with fail
    refine CA.out.mono ?_
    rintro e w1 ⟨rfl, hb1⟩
    have CB := Lib.hid (HB.out w1 hb1)
    replace hb1 := Lib.hid hb1
    go_wp2_with fail
    refine CB.out.mono ?_
    rintro e w2 ⟨rfl, hb2⟩
    have hbw := Lib.hid (hb1.out.trans (hb2.mono hb1.out.size))
    clear CA CB hb1 hb2 HA HB
    go_wp2
    go_ret
    exact ⟨by rw [hX.out]; rfl, hbw.out⟩
end Go.Proofs.YtmlifggklaeieaaDoor.Hi

/- access.homeOf: the run-time package of a class, and the class. -/
namespace Go.Proofs.YtmlifggklaeieaaDoor.Hi
open Go Go.RowKit Go.Proofs.YtmlifggklaeieaaDoor.Nm Go.Proofs.YtmlifggklaeieaaDoorW.PrintWords Go.Proofs.YtmlifggklaeieaaDoorW.PrintLast Go.Proofs.YtmlifggklaeieaaDoorW.PrintMore Go.Proofs.YtmlifggklaeieaaDoor.Pt
set_option linter.unusedVariables false
set_option linter.unusedSimpArgs false
set_option maxHeartbeats 2000000

theorem results_cct {P : Program} {fn : Func} {p p' u : Tmp} {ty ty' : TypeId} (h : fn.results = #[.cell p ty, .cell p' ty', .tmp u]) (tmps : Array Value) (w : World) (g g' : Nat) (t t' : TypeId) (cs cs' : Array Value) (fr fr' : Nat × Nat) (d d' : TypeDesc)
    (hp : tmps.getD p undef = .pointer (some ⟨g, 0, none⟩)) (hg : w.heap[g]? = some (.cells cs t fr))
    (hu : P.underlying ty = some d) (hd : (match d with | .struct _ | .array _ _ => true | _ => false) = true) (hi : (P.info? ty).map (·.size) = some cs.size)
    (hp' : tmps.getD p' undef = .pointer (some ⟨g', 0, none⟩)) (hg' : w.heap[g']? = some (.cells cs' t' fr'))
    (hu' : P.underlying ty' = some d') (hd' : (match d' with | .struct _ | .array _ _ => true | _ => false) = true) (hi' : (P.info? ty').map (·.size) = some cs'.size) :
    (results fn tmps).run P w = .ok (.tuple #[.agg cs, .agg cs', tmps.getD u undef]) w := by
  have h1 : tmps[p]?.getD undef = .pointer (some ⟨g, 0, none⟩) := by simpa using hp
  have h2 : tmps[p']?.getD undef = .pointer (some ⟨g', 0, none⟩) := by simpa using hp'
  simp [results, h, h1, h2, asAddr, run_loadVar_row w g t ty cs fr d hg hu hd hi, run_loadVar_row w g' t' ty' cs' fr' d' hg' hu' hd' hi']
def homeV (loader : Int) (name : ByteArray) : Value := .agg #[.int .i64 loader, .string name]
theorem home_nil (id : Int) (w : World) :
    Calls Tryd.prog 24 #[.pointer none, .int .i64 id] w fun e w' => ∃ vc, e = .returned (.tuple #[homeV 0 ⟨#[]⟩, vc, .int .i64 2]) ∧ OwnC w' w.heap.size vc z44 ∧ Below w.heap.size w w' := by
  have C0 := heap_alloc2_old w (.cells #[.int .i64 0, .string ⟨#[]⟩] 61) (.cells #[.string ⟨#[]⟩, .string ⟨#[]⟩, .slice none 0 0, .int .i64 0, .int .i64 0, .slice none 0 0] 44)
  have C1 := heap_alloc2_new w (.cells #[.int .i64 0, .string ⟨#[]⟩] 61) (.cells #[.string ⟨#[]⟩, .string ⟨#[]⟩, .slice none 0 0, .int .i64 0, .int .i64 0, .slice none 0 0] 44)
  replace C0 := Lib.hid C0
  replace C1 := Lib.hid C1
  go_enter Tryd.func24, Tryd.ntmps24
  go_wp2
  exact bodyPost_ret (results_cct rfl _ _ w.heap.size (w.heap.size + 1) 61 44 _ _ (0, 0) (0, 0) _ _ rfl C0.out Tryd.underlying61 rfl (by kernel_rfl) rfl C1.out Tryd.underlying44 rfl (by kernel_rfl)) rfl ⟨_, rfl, ⟨_, _, rfl, Kd.R_nil _ _ _ _ _, Kd.R_nil _ _ _ _ _⟩, ((Below.refl w.heap.size w).alloc (Nat.le_refl _) _).alloc (by simp) _⟩
/-- The run-time package of a number's class, the class, the error. -/
def homeF (es : List Ent) (id : Int) : Int × ByteArray × S44 × Int := if 0 ≤ id ∧ id < es.length then ((es.getD id.toNat zE).c.f4, pkgB (es.getD id.toNat zE).c.f0, (es.getD id.toNat zE).c, 0) else (0, ⟨#[]⟩, z44, 3)
theorem drew_heap {W : World} {g : Nat} {o : Obj} (h : W.heap[g]? = some o) : W.drew.heap[g]? = some o := h
theorem drew_R {α : Type} {d : Kd α} {e : Nat} {W : World} {base : Nat} {ok : Nat → Prop} {v : Value} {xs : List α} (h : d.R e W base ok v xs) : d.R e W.drew base ok v xs := Kd.R_below h (below_drew1 (Below.refl _ _))
theorem far_set6 {W : World} {g h t : Nat} {cs : Array Value} (hb : W.heap[g]? = some (.cells cs t (0, 0))) (hne : g ≠ h) (u0 u1 u2 u3 u4 u5 : Value) : (set6 W h u0 u1 u2 u3 u4 u5).heap[g]? = some (.cells cs t (0, 0)) :=
  blk_far (p := ⟨h, 5, none⟩) (blk_far (p := ⟨h, 4, none⟩) (blk_far (p := ⟨h, 3, none⟩) (blk_far (p := ⟨h, 2, none⟩) (blk_far (p := ⟨h, 1, none⟩) (blk_far (p := ⟨h, 0, none⟩) hb hne u0) hne u1) hne u2) hne u3) hne u4) hne u5
theorem home_any (w : World) (base g : Nat) (v : Value) (mb : Nat) (ps : List Nat) (es : List Ent) (h : WIn w base g v mb ps es) (hs : ∀ x ∈ es, Small x.c ∧ x.c.f0.size < 4611686018427387904) (id : Int) :
    Calls Tryd.prog 24 #[.pointer (some ⟨g, 0, none⟩), .int .i64 id] w fun e w' => ∃ vc, e = .returned (.tuple #[homeV (homeF es id).1 (homeF es id).2.1, vc, .int .i64 (homeF es id).2.2.2]) ∧ OwnC w' w.heap.size vc (homeF es id).2.2.1 ∧ Below w.heap.size w w' := by
  have C0 := heap_alloc2_old w (.cells #[.int .i64 0, .string ⟨#[]⟩] 61) (.cells #[.string ⟨#[]⟩, .string ⟨#[]⟩, .slice none 0 0, .int .i64 0, .int .i64 0, .slice none 0 0] 44)
  have C1 := heap_alloc2_new w (.cells #[.int .i64 0, .string ⟨#[]⟩] 61) (.cells #[.string ⟨#[]⟩, .string ⟨#[]⟩, .slice none 0 0, .int .i64 0, .int .i64 0, .slice none 0 0] 44)
  have BB := ((Below.refl w.heap.size w).alloc (Nat.le_refl _) (.cells #[.int .i64 0, .string ⟨#[]⟩] 61)).alloc (by simp) (.cells #[.string ⟨#[]⟩, .string ⟨#[]⟩, .slice none 0 0, .int .i64 0, .int .i64 0, .slice none 0 0] 44)
  have h' := h.below BB
  have CA := Lib.hid (class_any _ base g v mb ps es h' (fun x hx => (hs x hx).1) id)
  have hsz := Lib.hid BB.size
  replace C0 := Lib.hid C0
  replace C1 := Lib.hid C1
  replace BB := Lib.hid BB
  by_cases hin : 0 ≤ id ∧ id < es.length
  · have hc : classF es id = ((es.getD id.toNat zE).c, 0) := if_pos hin
    have hh : homeF es id = ((es.getD id.toNat zE).c.f4, pkgB (es.getD id.toNat zE).c.f0, (es.getD id.toNat zE).c, 0) := if_pos hin
    have hx : es.getD id.toNat zE ∈ es := by
      rw [List.getD_eq_getElem?_getD, List.getElem?_eq_getElem (by have := h.len; omega)]
      exact List.getElem_mem _
    have sm := (hs _ hx).2
    rw [hh]
    rw [hc] at CA
    generalize (es.getD id.toNat zE).c = x at *
    have PK := Lib.hid (package_any x.f0 sm)
    clear h h' hh hc hx hs sm
    go_enter Tryd.func24, Tryd.ntmps24
    go_wp2_with fail
    refine CA.out.mono ?_
    rintro e w1 ⟨vc, rfl, ⟨v2, v5, rfl, R2, R5⟩, hb1⟩
    obtain ⟨A2, c2, rfl⟩ := Kd.R_slice R2
    obtain ⟨A5, c5, rfl⟩ := Kd.R_slice R5
    have D0 := blk_below C0.out hb1
    have D1 := blk_below C1.out hb1
    have BB1 := BB.out.trans (hb1.mono hsz.out)
    replace R2 := Lib.hid (Kd.R_lower R2 hsz.out)
    replace R5 := Lib.hid (Kd.R_lower R5 hsz.out)
    replace hb1 := Lib.hid hb1
    replace BB1 := Lib.hid BB1
    replace D0 := Lib.hid D0
    replace D1 := Lib.hid D1
    clear C0 C1 BB CA
    go_wp2_with fail
    have F2 := blk_new w1 (.cells #[.string x.f0, .string x.f1, .slice A2 x.f2.length c2, .int .i64 x.f3, .int .i64 x.f4, .slice A5 x.f5.length c5] 44)
    have BW := (Below.refl w1.heap.size w1).alloc (Nat.le_refl _) (.cells #[.string x.f0, .string x.f1, .slice A2 x.f2.length c2, .int .i64 x.f3, .int .i64 x.f4, .slice A5 x.f5.length c5] 44)
    generalize w1.alloc (.cells #[.string x.f0, .string x.f1, .slice A2 x.f2.length c2, .int .i64 x.f3, .int .i64 x.f4, .slice A5 x.f5.length c5] 44) = W at *
    have E0 := blk_below D0.out BW
    have E1 := blk_below D1.out BW
    have p0 : W.cell? ⟨w1.heap.size, 0, none⟩ = some (.string x.f0) := (blk_cell F2 0).trans rfl
    have p1 : W.cell? ⟨w1.heap.size, 1, none⟩ = some (.string x.f1) := (blk_cell F2 1).trans rfl
    have p2 : W.cell? ⟨w1.heap.size, 2, none⟩ = some (.slice A2 x.f2.length c2) := (blk_cell F2 2).trans rfl
    have p3 : W.cell? ⟨w1.heap.size, 3, none⟩ = some (.int .i64 x.f3) := (blk_cell F2 3).trans rfl
    have p4 : W.cell? ⟨w1.heap.size, 4, none⟩ = some (.int .i64 x.f4) := (blk_cell F2 4).trans rfl
    have p5 : W.cell? ⟨w1.heap.size, 5, none⟩ = some (.slice A5 x.f5.length c5) := (blk_cell F2 5).trans rfl
    have q0 : W.cell? ⟨w.heap.size, 0, none⟩ = some (.int .i64 0) := (blk_cell E0 0).trans rfl
    have q1 : W.cell? ⟨w.heap.size, 1, none⟩ = some (.string ⟨#[]⟩) := (blk_cell E0 1).trans rfl
    have i0 := blk_frozen E0 0
    have i1 := blk_frozen E0 1
    have r0 : W.cell? ⟨w.heap.size + 1, 0, none⟩ = some (.string ⟨#[]⟩) := (blk_cell E1 0).trans rfl
    have r1 : W.cell? ⟨w.heap.size + 1, 1, none⟩ = some (.string ⟨#[]⟩) := (blk_cell E1 1).trans rfl
    have r2 : W.cell? ⟨w.heap.size + 1, 2, none⟩ = some (.slice none 0 0) := (blk_cell E1 2).trans rfl
    have r3 : W.cell? ⟨w.heap.size + 1, 3, none⟩ = some (.int .i64 0) := (blk_cell E1 3).trans rfl
    have r4 : W.cell? ⟨w.heap.size + 1, 4, none⟩ = some (.int .i64 0) := (blk_cell E1 4).trans rfl
    have r5 : W.cell? ⟨w.heap.size + 1, 5, none⟩ = some (.slice none 0 0) := (blk_cell E1 5).trans rfl
    have j0 := blk_frozen E1 0
    have j1 := blk_frozen E1 1
    have j2 := blk_frozen E1 2
    have j3 := blk_frozen E1 3
    have j4 := blk_frozen E1 4
    have j5 := blk_frozen E1 5
    have hne : w1.heap.size ≠ w.heap.size := by have := blk_lt D0.out; omega
    have hne1 : w1.heap.size ≠ w.heap.size + 1 := by have := blk_lt D1.out; omega
    have Y0 : ((W.setCell ⟨w.heap.size, 0, none⟩ (.int .i64 x.f4)).setCell ⟨w.heap.size, 1, none⟩ (.string (pkgB x.f0))).heap[w.heap.size]? = some (.cells #[.int .i64 x.f4, .string (pkgB x.f0)] 61 (0, 0)) := (blk_set (blk_set E0 0 (.int .i64 x.f4)) 1 (.string (pkgB x.f0))).trans rfl
    have X0 := Lib.hid (far_set6 Y0 (h := w.heap.size + 1) (by omega) (.string x.f0) (.string x.f1) (.slice A2 x.f2.length c2) (.int .i64 x.f3) (.int .i64 x.f4) (.slice A5 x.f5.length c5))
    have Y1 := blk_far (p := ⟨w.heap.size, 1, none⟩) (blk_far (p := ⟨w.heap.size, 0, none⟩) E1 (by simp) (.int .i64 x.f4)) (by simp) (.string (pkgB x.f0))
    have Y2 := Kd.R_set (Kd.R_set (Kd.R_below R2.out BW) E0 (by decide) 0 (.int .i64 x.f4)) (blk_set E0 0 (.int .i64 x.f4)) (by decide) 1 (.string (pkgB x.f0))
    have Y5 := Kd.R_set (Kd.R_set (Kd.R_below R5.out BW) E0 (by decide) 0 (.int .i64 x.f4)) (blk_set E0 0 (.int .i64 x.f4)) (by decide) 1 (.string (pkgB x.f0))
    have X2 := Lib.hid (R_set6 Y2 Y1 (by decide) (.string x.f0) (.string x.f1) (.slice A2 x.f2.length c2) (.int .i64 x.f3) (.int .i64 x.f4) (.slice A5 x.f5.length c5))
    have X5 := Lib.hid (R_set6 Y5 Y1 (by decide) (.string x.f0) (.string x.f1) (.slice A2 x.f2.length c2) (.int .i64 x.f3) (.int .i64 x.f4) (.slice A5 x.f5.length c5))
    have X1 := Lib.hid (blk_set6 Y1 (.string x.f0) (.string x.f1) (.slice A2 x.f2.length c2) (.int .i64 x.f3) (.int .i64 x.f4) (.slice A5 x.f5.length c5))
    have XB := Lib.hid (below_set6 (((BB1.out.trans (BW.mono BB1.out.size)).setCell (p := ⟨w.heap.size, 0, none⟩) (Nat.le_refl _) (.int .i64 x.f4)).setCell (p := ⟨w.heap.size, 1, none⟩) (Nat.le_refl _) (.string (pkgB x.f0))) (g := w.heap.size + 1) (Nat.le_succ _) (.string x.f0) (.string x.f1) (.slice A2 x.f2.length c2) (.int .i64 x.f3) (.int .i64 x.f4) (.slice A5 x.f5.length c5))
    have Z0 := Lib.hid (drew_heap X0.out)
    have Z1 := Lib.hid (drew_heap X1.out)
    have Z2 := Lib.hid (drew_R X2.out)
    have Z5 := Lib.hid (drew_R X5.out)
    have ZB := Lib.hid (below_drew1 XB.out)
    clear X0 X1 X2 X5 XB
    clear Y0 Y1 Y2 Y5 E0 E1 F2 BW D0 D1 BB1 R2 R5 hb1 hsz
    go_region_with (go_at_call 39; refine (PK.out _).mono ?_; rintro e w10 ⟨rfl, rfl⟩)
    all_goals go_wp2
    all_goals exact bodyPost_ret (results_cct rfl _ _ w.heap.size (w.heap.size + 1) 61 44 _ _ (0, 0) (0, 0) _ _ rfl Z0.out Tryd.underlying61 rfl (by kernel_rfl) rfl Z1.out Tryd.underlying44 rfl (by kernel_rfl)) rfl ⟨_, rfl, ⟨_, _, rfl, Z2.out, Z5.out⟩, ZB.out⟩
  · have hc : classF es id = (z44, 3) := if_neg hin
    have hh : homeF es id = (0, ⟨#[]⟩, z44, 3) := if_neg hin
    rw [hh]
    rw [hc] at CA
    clear h h' hh hc hs
    go_enter Tryd.func24, Tryd.ntmps24
    go_wp2_with fail
    refine CA.out.mono ?_
    rintro e w1 ⟨vc, rfl, ⟨v2, v5, rfl, R2, R5⟩, hb1⟩
    obtain ⟨A2, c2, rfl⟩ := Kd.R_slice R2
    obtain ⟨A5, c5, rfl⟩ := Kd.R_slice R5
    have D0 := blk_below C0.out hb1
    have D1 := blk_below C1.out hb1
    have BB1 := BB.out.trans (hb1.mono hsz.out)
    replace R2 := Lib.hid (Kd.R_lower R2 hsz.out)
    replace R5 := Lib.hid (Kd.R_lower R5 hsz.out)
    replace hb1 := Lib.hid hb1
    replace BB1 := Lib.hid BB1
    replace D0 := Lib.hid D0
    replace D1 := Lib.hid D1
    clear C0 C1 BB CA
    go_wp2_with fail
    have F2 := blk_new w1 (.cells #[.string z44.f0, .string z44.f1, .slice A2 z44.f2.length c2, .int .i64 z44.f3, .int .i64 z44.f4, .slice A5 z44.f5.length c5] 44)
    have BW := (Below.refl w1.heap.size w1).alloc (Nat.le_refl _) (.cells #[.string z44.f0, .string z44.f1, .slice A2 z44.f2.length c2, .int .i64 z44.f3, .int .i64 z44.f4, .slice A5 z44.f5.length c5] 44)
    generalize w1.alloc (.cells #[.string z44.f0, .string z44.f1, .slice A2 z44.f2.length c2, .int .i64 z44.f3, .int .i64 z44.f4, .slice A5 z44.f5.length c5] 44) = W at *
    have E0 := blk_below D0.out BW
    have E1 := blk_below D1.out BW
    have p0 : W.cell? ⟨w1.heap.size, 0, none⟩ = some (.string z44.f0) := (blk_cell F2 0).trans rfl
    have p1 : W.cell? ⟨w1.heap.size, 1, none⟩ = some (.string z44.f1) := (blk_cell F2 1).trans rfl
    have p2 : W.cell? ⟨w1.heap.size, 2, none⟩ = some (.slice A2 z44.f2.length c2) := (blk_cell F2 2).trans rfl
    have p3 : W.cell? ⟨w1.heap.size, 3, none⟩ = some (.int .i64 z44.f3) := (blk_cell F2 3).trans rfl
    have p4 : W.cell? ⟨w1.heap.size, 4, none⟩ = some (.int .i64 z44.f4) := (blk_cell F2 4).trans rfl
    have p5 : W.cell? ⟨w1.heap.size, 5, none⟩ = some (.slice A5 z44.f5.length c5) := (blk_cell F2 5).trans rfl
    have q0 : W.cell? ⟨w.heap.size, 0, none⟩ = some (.int .i64 0) := (blk_cell E0 0).trans rfl
    have q1 : W.cell? ⟨w.heap.size, 1, none⟩ = some (.string ⟨#[]⟩) := (blk_cell E0 1).trans rfl
    have i0 := blk_frozen E0 0
    have i1 := blk_frozen E0 1
    have r0 : W.cell? ⟨w.heap.size + 1, 0, none⟩ = some (.string ⟨#[]⟩) := (blk_cell E1 0).trans rfl
    have r1 : W.cell? ⟨w.heap.size + 1, 1, none⟩ = some (.string ⟨#[]⟩) := (blk_cell E1 1).trans rfl
    have r2 : W.cell? ⟨w.heap.size + 1, 2, none⟩ = some (.slice none 0 0) := (blk_cell E1 2).trans rfl
    have r3 : W.cell? ⟨w.heap.size + 1, 3, none⟩ = some (.int .i64 0) := (blk_cell E1 3).trans rfl
    have r4 : W.cell? ⟨w.heap.size + 1, 4, none⟩ = some (.int .i64 0) := (blk_cell E1 4).trans rfl
    have r5 : W.cell? ⟨w.heap.size + 1, 5, none⟩ = some (.slice none 0 0) := (blk_cell E1 5).trans rfl
    have j0 := blk_frozen E1 0
    have j1 := blk_frozen E1 1
    have j2 := blk_frozen E1 2
    have j3 := blk_frozen E1 3
    have j4 := blk_frozen E1 4
    have j5 := blk_frozen E1 5
    have hne : w1.heap.size ≠ w.heap.size := by have := blk_lt D0.out; omega
    have hne1 : w1.heap.size ≠ w.heap.size + 1 := by have := blk_lt D1.out; omega
    have Y0 : ((W.setCell ⟨w.heap.size, 0, none⟩ (.int .i64 0)).setCell ⟨w.heap.size, 1, none⟩ (.string ⟨#[]⟩)).heap[w.heap.size]? = some (.cells #[.int .i64 0, .string ⟨#[]⟩] 61 (0, 0)) := (blk_set (blk_set E0 0 (.int .i64 0)) 1 (.string ⟨#[]⟩)).trans rfl
    have X0 := Lib.hid (far_set6 Y0 (h := w.heap.size + 1) (by omega) (.string z44.f0) (.string z44.f1) (.slice A2 z44.f2.length c2) (.int .i64 z44.f3) (.int .i64 z44.f4) (.slice A5 z44.f5.length c5))
    have Y1 := blk_far (p := ⟨w.heap.size, 1, none⟩) (blk_far (p := ⟨w.heap.size, 0, none⟩) E1 (by simp) (.int .i64 0)) (by simp) (.string ⟨#[]⟩)
    have Y2 := Kd.R_set (Kd.R_set (Kd.R_below R2.out BW) E0 (by decide) 0 (.int .i64 0)) (blk_set E0 0 (.int .i64 0)) (by decide) 1 (.string ⟨#[]⟩)
    have Y5 := Kd.R_set (Kd.R_set (Kd.R_below R5.out BW) E0 (by decide) 0 (.int .i64 0)) (blk_set E0 0 (.int .i64 0)) (by decide) 1 (.string ⟨#[]⟩)
    have X2 := Lib.hid (R_set6 Y2 Y1 (by decide) (.string z44.f0) (.string z44.f1) (.slice A2 z44.f2.length c2) (.int .i64 z44.f3) (.int .i64 z44.f4) (.slice A5 z44.f5.length c5))
    have X5 := Lib.hid (R_set6 Y5 Y1 (by decide) (.string z44.f0) (.string z44.f1) (.slice A2 z44.f2.length c2) (.int .i64 z44.f3) (.int .i64 z44.f4) (.slice A5 z44.f5.length c5))
    have X1 := Lib.hid (blk_set6 Y1 (.string z44.f0) (.string z44.f1) (.slice A2 z44.f2.length c2) (.int .i64 z44.f3) (.int .i64 z44.f4) (.slice A5 z44.f5.length c5))
    have XB := Lib.hid (below_set6 (((BB1.out.trans (BW.mono BB1.out.size)).setCell (p := ⟨w.heap.size, 0, none⟩) (Nat.le_refl _) (.int .i64 0)).setCell (p := ⟨w.heap.size, 1, none⟩) (Nat.le_refl _) (.string ⟨#[]⟩)) (g := w.heap.size + 1) (Nat.le_succ _) (.string z44.f0) (.string z44.f1) (.slice A2 z44.f2.length c2) (.int .i64 z44.f3) (.int .i64 z44.f4) (.slice A5 z44.f5.length c5))
    have Z0 := Lib.hid (drew_heap X0.out)
    have Z1 := Lib.hid (drew_heap X1.out)
    have Z2 := Lib.hid (drew_R X2.out)
    have Z5 := Lib.hid (drew_R X5.out)
    have ZB := Lib.hid (below_drew1 XB.out)
    clear X0 X1 X2 X5 XB
    clear Y0 Y1 Y2 Y5 E0 E1 F2 BW D0 D1 BB1 R2 R5 hb1 hsz
    go_region
    all_goals go_wp2
    all_goals exact bodyPost_ret (results_cct rfl _ _ w.heap.size (w.heap.size + 1) 61 44 _ _ (0, 0) (0, 0) _ _ rfl Z0.out Tryd.underlying61 rfl (by kernel_rfl) rfl Z1.out Tryd.underlying44 rfl (by kernel_rfl)) rfl ⟨_, rfl, ⟨_, _, rfl, Z2.out, Z5.out⟩, ZB.out⟩
end Go.Proofs.YtmlifggklaeieaaDoor.Hi

/- The world's queries, in the form that the printed texts ask for. -/
namespace Go.Proofs.YtmlifggklaeieaaDoor.Pt
open Go Go.RowKit Go.Proofs.YtmlifggklaeieaaDoor.Nm Go.Proofs.YtmlifggklaeieaaDoor.Hi Go.Proofs.YtmlifggklaeieaaDoorW.PrintWords Go.Proofs.YtmlifggklaeieaaDoorW.PrintLast Go.Proofs.YtmlifggklaeieaaDoorW.PrintMore
set_option linter.unusedVariables false
set_option linter.unusedSimpArgs false

def hier_World_Class.f (a0 : List Hi.Ent) (a1 : Int) : Option (ByteArray × ByteArray × (List ByteArray) × Int × Int × (List (S51)) × Int) :=
  some ((classF a0 a1).1.f0, (classF a0 a1).1.f1, (classF a0 a1).1.f2, (classF a0 a1).1.f3, (classF a0 a1).1.f4, (classF a0 a1).1.f5, (classF a0 a1).2)
theorem hier_World_Class.calls (G_ : Nat) (a0 : List Hi.Ent) (a1 : Int) (r1 : ByteArray) (r2 : ByteArray) (r3 : List ByteArray) (r4 : Int) (r5 : Int) (r6 : List (S51)) (r7 : Int) (w : World) (hq0 : WOK w G_ a0) (h : hier_World_Class.f a0 a1 = some (r1, r2, r3, r4, r5, r6, r7)) :
    Calls Tryd.prog 19 #[.pointer (some ⟨G_, 0, none⟩), .int .i64 a1] w fun e w' => ∃ v2_ v5_ : Value, e = .returned (.tuple #[.agg #[.string r1, .string r2, v2_, .int .i64 r4, .int .i64 r5, v5_], .int .i64 r7]) ∧ Kd.R Kd.string 9 w' w.heap.size (fun _ => True) v2_ r3 ∧ Kd.R k51 51 w' w.heap.size (fun _ => True) v5_ r6 ∧ Below w.heap.size w w' := by
  unfold hier_World_Class.f at h
  simp only [Option.some.injEq, Prod.mk.injEq] at h
  obtain ⟨rfl, rfl, rfl, rfl, rfl, rfl, rfl⟩ := h
  obtain ⟨base, v, mb, ps, hi⟩ := hq0.inn
  refine (class_any w base G_ v mb ps a0 hi hq0.small a1).mono ?_
  rintro e w' ⟨vc, rfl, ⟨v2, v5, rfl, R2, R5⟩, hb⟩
  exact ⟨v2, v5, rfl, R2, R5, hb⟩
def access_homeOf.f (a0 : List Hi.Ent) (a1 : Int) : Option (Int × ByteArray × ByteArray × ByteArray × (List ByteArray) × Int × Int × (List (S51)) × Int) :=
  some ((homeF a0 a1).1, (homeF a0 a1).2.1, (homeF a0 a1).2.2.1.f0, (homeF a0 a1).2.2.1.f1, (homeF a0 a1).2.2.1.f2, (homeF a0 a1).2.2.1.f3, (homeF a0 a1).2.2.1.f4, (homeF a0 a1).2.2.1.f5, (homeF a0 a1).2.2.2)
theorem access_homeOf.calls (G_ : Nat) (a0 : List Hi.Ent) (a1 : Int) (r1 : Int) (r2 : ByteArray) (r3 : ByteArray) (r4 : ByteArray) (r5 : List ByteArray) (r6 : Int) (r7 : Int) (r8 : List (S51)) (r9 : Int) (w : World) (hq0 : WOK w G_ a0) (h : access_homeOf.f a0 a1 = some (r1, r2, r3, r4, r5, r6, r7, r8, r9)) :
    Calls Tryd.prog 24 #[.pointer (some ⟨G_, 0, none⟩), .int .i64 a1] w fun e w' => ∃ v4_ v7_ : Value, e = .returned (.tuple #[.agg #[.int .i64 r1, .string r2], .agg #[.string r3, .string r4, v4_, .int .i64 r6, .int .i64 r7, v7_], .int .i64 r9]) ∧ Kd.R Kd.string 9 w' w.heap.size (fun _ => True) v4_ r5 ∧ Kd.R k51 51 w' w.heap.size (fun _ => True) v7_ r8 ∧ Below w.heap.size w w' := by
  unfold access_homeOf.f at h
  simp only [Option.some.injEq, Prod.mk.injEq] at h
  obtain ⟨rfl, rfl, rfl, rfl, rfl, rfl, rfl, rfl, rfl⟩ := h
  obtain ⟨base, v, mb, ps, hi⟩ := hq0.inn
  refine (home_any w base G_ v mb ps a0 hi hq0.named a1).mono ?_
  rintro e w' ⟨vc, rfl, ⟨v2, v5, rfl, R2, R5⟩, hb⟩
  exact ⟨v2, v5, rfl, R2, R5, hb⟩
def hier_World_ByName.f (a0 : List Hi.Ent) (a1 : ByteArray) : Option (Int × Int) := if a1.size ≤ 9223372036854775807 then some (nameF a0 a1) else none
theorem hier_World_ByName.calls (G_ : Nat) (a0 : List Hi.Ent) (a1 : ByteArray) (r1 : Int) (r2 : Int) (w : World) (hq0 : WOK w G_ a0) (h : hier_World_ByName.f a0 a1 = some (r1, r2)) :
    Calls Tryd.prog 25 #[.pointer (some ⟨G_, 0, none⟩), .string a1] w fun e w' => e = .returned (.tuple #[.int .i64 r1, .int .i64 r2]) ∧ Below w.heap.size w w' := by
  unfold hier_World_ByName.f at h
  obtain ⟨hs, h⟩ := if_some h
  have h := Option.some.inj h
  obtain rfl : (nameF a0 a1).1 = r1 := by rw [h]
  obtain rfl : (nameF a0 a1).2 = r2 := by rw [h]
  exact byName_any w G_ a0 hq0 a1 hs
def hier_World_IsIface.f (a0 : List Hi.Ent) (a1 : Int) : Option Bool := some (inB a0 a1 && isI (ent a0 a1).c)
theorem hier_World_IsIface.calls (G_ : Nat) (a0 : List Hi.Ent) (a1 : Int) (r : Bool) (w : World) (hq0 : WOK w G_ a0) (h : hier_World_IsIface.f a0 a1 = some r) :
    Calls Tryd.prog 27 #[.pointer (some ⟨G_, 0, none⟩), .int .i64 a1] w fun e w' => e = .returned (.bool r) ∧ Below w.heap.size w w' := by
  obtain rfl := Option.some.inj h
  exact isIface_any w G_ a0 hq0 a1
def hier_World_SamePackage.f (a0 : List Hi.Ent) (a1 : Int) (a2 : Int) : Option Bool := some (inB a0 a1 && inB a0 a2 && tog (ent a0 a1).c (ent a0 a2).c)
theorem hier_World_SamePackage.calls (G_ : Nat) (a0 : List Hi.Ent) (a1 : Int) (a2 : Int) (r : Bool) (w : World) (hq0 : WOK w G_ a0) (h : hier_World_SamePackage.f a0 a1 a2 = some r) :
    Calls Tryd.prog 20 #[.pointer (some ⟨G_, 0, none⟩), .int .i64 a1, .int .i64 a2] w fun e w' => e = .returned (.bool r) ∧ Below w.heap.size w w' := by
  obtain rfl := Option.some.inj h
  exact samePackage_any w G_ a0 hq0 a1 a2
def hier_World_Extends.f (a0 : List Hi.Ent) (a1 : Int) (a2 : Int) : Option Bool := some (extF a0 a1 a2)
theorem hier_World_Extends.calls (G_ : Nat) (a0 : List Hi.Ent) (a1 : Int) (a2 : Int) (r : Bool) (w : World) (hq0 : WOK w G_ a0) (h : hier_World_Extends.f a0 a1 a2 = some r) :
    Calls Tryd.prog 28 #[.pointer (some ⟨G_, 0, none⟩), .int .i64 a1, .int .i64 a2] w fun e w' => e = .returned (.bool r) ∧ Below w.heap.size w w' := by
  obtain rfl := Option.some.inj h
  exact extends_any w G_ a0 hq0 a1 a2
def hier_World_Method.f (a0 : List Hi.Ent) (a1_0 : Int) (a1_1 : Int) : Option (ByteArray × ByteArray × Int × Int × Int × (List (S83)) × Int) :=
  some ((methF a0 a1_0 a1_1).1.f0, (methF a0 a1_0 a1_1).1.f1, (methF a0 a1_0 a1_1).1.f2, (methF a0 a1_0 a1_1).1.f3, (methF a0 a1_0 a1_1).1.f4, (methF a0 a1_0 a1_1).1.f5, (methF a0 a1_0 a1_1).2)
theorem hier_World_Method.calls (G_ : Nat) (a0 : List Hi.Ent) (a1_0 : Int) (a1_1 : Int) (r1 : ByteArray) (r2 : ByteArray) (r3 : Int) (r4 : Int) (r5 : Int) (r6 : List (S83)) (r7 : Int) (w : World) (hq0 : WOK w G_ a0) (h : hier_World_Method.f a0 a1_0 a1_1 = some (r1, r2, r3, r4, r5, r6, r7)) :
    Calls Tryd.prog 21 #[.pointer (some ⟨G_, 0, none⟩), .agg #[.int .i64 a1_0, .int .i64 a1_1]] w fun e w' => ∃ v5_ : Value, e = .returned (.tuple #[.agg #[.string r1, .string r2, .int .i64 r3, .int .i64 r4, .int .i64 r5, v5_], .int .i64 r7]) ∧ Kd.R k83 83 w' w.heap.size (fun _ => True) v5_ r6 ∧ Below w.heap.size w w' := by
  unfold hier_World_Method.f at h
  simp only [Option.some.injEq, Prod.mk.injEq] at h
  obtain ⟨rfl, rfl, rfl, rfl, rfl, rfl, rfl⟩ := h
  cases hm : inM a0 a1_0 a1_1 with
  | true =>
    have hm2 := hm
    simp only [inM, inB, Bool.and_eq_true, decide_eq_true_eq] at hm2
    exact method_in w G_ a0 hq0 a1_0 a1_1 hm2.1.1 hm2.1.2 hm2.2.1 hm2.2.2
  | false => exact method_out w G_ a0 hq0 a1_0 a1_1 hm
def names_Package.f (a0 : ByteArray) : Option ByteArray := if a0.size < 4611686018427387904 then some (pkgB a0) else none
theorem names_Package.calls (a0 : ByteArray) (r : ByteArray) (w : World) (h : names_Package.f a0 = some r) :
    Calls Tryd.prog 39 #[.string a0] w fun e w' => e = .returned (.string r) ∧ Below w.heap.size w w' := by
  unfold names_Package.f at h
  obtain ⟨hs, h⟩ := if_some h
  obtain rfl := Option.some.inj h
  refine (package_any a0 hs w).mono ?_
  rintro e w' ⟨rfl, rfl⟩
  exact ⟨rfl, Below.refl _ _⟩
/-! ### a nil world -/
def access_Package_nil.f (a1 : Int) : Option (Int × ByteArray × Int) := some (0, ⟨#[]⟩, 2)
def access_ClassOpen_nil.f (a1 : Int) (a2 : Int) : Option (Bool × Int) := some (false, 2)
def access_TypeOpen_nil.f (a1 : Int) (a2_0 : Int) (a2_1 : ByteArray) : Option (Bool × Int) := some (false, 2)
def access_MethodOpen_nil.f (a1 : Int) (a2_0 : Int) (a2_1 : Int) (a3 : Int) : Option (Bool × Int) := some (false, 2)
end Go.Proofs.YtmlifggklaeieaaDoor.Pt

/- hier.object: the class above all others, in memory of the call's own. -/
namespace Go.Proofs.YtmlifggklaeieaaDoor.Hi
open Go Go.RowKit Go.Proofs.YtmlifggklaeieaaDoorW.PrintWords Go.Proofs.YtmlifggklaeieaaDoorW.PrintLast Go.Proofs.YtmlifggklaeieaaDoorW.PrintMore Go.Proofs.YtmlifggklaeieaaDoor.Pt
set_option linter.unusedVariables false
set_option linter.unusedSimpArgs false
set_option maxHeartbeats 2000000
set_option maxRecDepth 100000

/-- A block that holds the cells of a list is a row of the call's own. -/
theorem R_block {α : Type} (d : Kd α) (e : Nat) {W : World} {base g : Nat} {ok : Nat → Prop} {xs : List α} {inner : List Value} (h : W.heap[g]? = some (.cells inner.toArray e (0, 0))) (hb : base ≤ g) (hok : ok g) (hm : xs.length ≤ maxLen) (hr : Reps (d.M W base (fun k => ok k ∧ some k ≠ some g)) d.sz xs inner) :
    d.R e W base ok (.slice (some ⟨g, 0, none⟩) xs.length xs.length) xs :=
  ⟨fun k hk => by
    have : g = k := by simpa [Value.ownBlock] using hk
    exact this ▸ hok, inner, ⟨hr.1, .inr ⟨g, xs.length, inner.toArray, rfl, hb, h, Nat.le_refl _, hm, by simpa using hr.1, by simp [← hr.1]⟩⟩, hr⟩
def inst (op n : Int) : S83 := ⟨op, n, ⟨#[]⟩, ⟨false, ⟨#[]⟩, ⟨#[]⟩, ⟨#[]⟩⟩⟩
def instC (op n : Int) : List Value := [.int .i64 op, .int .i64 n, .string ⟨#[]⟩, .bool false, .string ⟨#[]⟩, .string ⟨#[]⟩, .string ⟨#[]⟩]
theorem reps_inst (W : World) (base : Nat) (ok : Nat → Prop) (op n : Int) : Reps (k83.M W base ok) k83.sz [inst op n] (instC op n) :=
  (Reps.none _ _).snoc (k83_mkM W base ok (inst op n)) rfl
theorem reps_inst2 (W : World) (base : Nat) (ok : Nat → Prop) (op n op' n' : Int) : Reps (k83.M W base ok) k83.sz [inst op n, inst op' n'] (instC op n ++ instC op' n') :=
  (reps_inst W base ok op n).snoc (k83_mkM W base ok (inst op' n')) rfl
def sObject : ByteArray := ⟨#[79, 98, 106, 101, 99, 116]⟩
def sInit : ByteArray := ⟨#[60, 105, 110, 105, 116, 62]⟩
def sV : ByteArray := ⟨#[40, 41, 86]⟩
def sId : ByteArray := ⟨#[105, 100]⟩
def sI : ByteArray := ⟨#[40, 41, 73]⟩
def sKin : ByteArray := ⟨#[107, 105, 110]⟩
def sLO : ByteArray := ⟨#[40, 41, 76, 79, 98, 106, 101, 99, 116, 59]⟩
def objM : List S51 := [⟨sInit, sV, 1, 1, 0, [inst 38 0]⟩, ⟨sId, sI, 1, 1, 1, [inst 1 7, inst 36 0]⟩, ⟨sKin, sLO, 4, 1, 1, [inst 4 0, inst 37 0]⟩]
def objC : S44 := ⟨sObject, ⟨#[]⟩, [], 33, 0, objM⟩
def methC (g : Nat) : List Value := (([.string sInit, .string sV, .int .i64 1, .int .i64 1, .int .i64 0, .slice (some ⟨g + 1, 0, none⟩) 1 1] : List Value) ++ [.string sId, .string sI, .int .i64 1, .int .i64 1, .int .i64 1, .slice (some ⟨g + 1 + 1, 0, none⟩) 2 2]) ++ [.string sKin, .string sLO, .int .i64 4, .int .i64 1, .int .i64 1, .slice (some ⟨g + 1 + 1 + 1, 0, none⟩) 2 2]
theorem five_new (w : World) (o0 o1 o2 o3 o4 : Obj) : (((((w.alloc o0).alloc o1).alloc o2).alloc o3).alloc o4).heap[w.heap.size]? = some o0 ∧ (((((w.alloc o0).alloc o1).alloc o2).alloc o3).alloc o4).heap[w.heap.size + 1]? = some o1 ∧ (((((w.alloc o0).alloc o1).alloc o2).alloc o3).alloc o4).heap[w.heap.size + 1 + 1]? = some o2 ∧
    (((((w.alloc o0).alloc o1).alloc o2).alloc o3).alloc o4).heap[w.heap.size + 1 + 1 + 1]? = some o3 ∧ (((((w.alloc o0).alloc o1).alloc o2).alloc o3).alloc o4).heap[w.heap.size + 1 + 1 + 1 + 1]? = some o4 ∧ Below w.heap.size w (((((w.alloc o0).alloc o1).alloc o2).alloc o3).alloc o4) := by
  have e0 : (w.alloc o0).heap.size = w.heap.size + 1 := by simp
  have e1 : ((w.alloc o0).alloc o1).heap.size = w.heap.size + 1 + 1 := by simp
  have e2 : (((w.alloc o0).alloc o1).alloc o2).heap.size = w.heap.size + 1 + 1 + 1 := by simp
  have e3 : ((((w.alloc o0).alloc o1).alloc o2).alloc o3).heap.size = w.heap.size + 1 + 1 + 1 + 1 := by simp
  refine ⟨blk_alloc (blk_alloc (blk_alloc (blk_alloc (blk_new w o0) o1) o2) o3) o4, ?_, ?_, ?_, ?_, ?_⟩
  · have := blk_alloc (blk_alloc (blk_alloc (blk_new (w.alloc o0) o1) o2) o3) o4
    rwa [e0] at this
  · have := blk_alloc (blk_alloc (blk_new ((w.alloc o0).alloc o1) o2) o3) o4
    rwa [e1] at this
  · have := blk_alloc (blk_new (((w.alloc o0).alloc o1).alloc o2) o3) o4
    rwa [e2] at this
  · have := blk_new ((((w.alloc o0).alloc o1).alloc o2).alloc o3) o4
    rwa [e3] at this
  · exact (((((Below.refl _ _).alloc (Nat.le_refl _) _).alloc (by omega) _).alloc (by omega) _).alloc (by omega) _).alloc (by omega) _
theorem objR {W : World} {base g : Nat} (hb : base ≤ g)
    (h1 : W.heap[g + 1]? = some (.cells (instC 38 0).toArray 83 (0, 0))) (h2 : W.heap[g + 1 + 1]? = some (.cells (instC 1 7 ++ instC 36 0).toArray 83 (0, 0))) (h3 : W.heap[g + 1 + 1 + 1]? = some (.cells (instC 4 0 ++ instC 37 0).toArray 83 (0, 0)))
    (h4 : W.heap[g + 1 + 1 + 1 + 1]? = some (.cells (methC g).toArray 51 (0, 0))) :
    Kd.R k51 51 W base (fun _ => True) (.slice (some ⟨g + 1 + 1 + 1 + 1, 0, none⟩) 3 3) objM := by
  have r1 := R_block k83 83 (base := base) (ok := fun k => True ∧ some k ≠ some (g + 1 + 1 + 1 + 1)) h1 (by omega) ⟨trivial, by simp⟩ (by decide) (reps_inst W base _ 38 0)
  have r2 := R_block k83 83 (base := base) (ok := fun k => True ∧ some k ≠ some (g + 1 + 1 + 1 + 1)) h2 (by omega) ⟨trivial, by simp⟩ (by decide) (reps_inst2 W base _ 1 7 36 0)
  have r3 := R_block k83 83 (base := base) (ok := fun k => True ∧ some k ≠ some (g + 1 + 1 + 1 + 1)) h3 (by omega) ⟨trivial, by simp⟩ (by decide) (reps_inst2 W base _ 4 0 37 0)
  refine R_block k51 51 (xs := objM) h4 (by omega) trivial (by decide) ?_
  exact (((Reps.none _ _).snoc (k51_mkM W base _ ⟨sInit, sV, 1, 1, 0, [inst 38 0]⟩ r1) rfl).snoc (k51_mkM W base _ ⟨sId, sI, 1, 1, 1, [inst 1 7, inst 36 0]⟩ r2) rfl).snoc (k51_mkM W base _ ⟨sKin, sLO, 4, 1, 1, [inst 4 0, inst 37 0]⟩ r3) rfl
theorem object_any (w : World) : Calls Tryd.prog 38 #[] w fun e w' => ∃ v5, e = .returned (.agg #[.string objC.f0, .string objC.f1, .slice none 0 0, .int .i64 objC.f3, .int .i64 objC.f4, v5]) ∧ Kd.R k51 51 w' w.heap.size (fun _ => True) v5 objC.f5 ∧ Below w.heap.size w w' := by
  go_enter Tryd.func38, Tryd.ntmps38
  go_wp2
  refine bodyPost_ret (results_cell_row rfl _ _ w.heap.size 44 _ (0, 0) _ rfl (five_new _ _ _ _ _ _).1 Tryd.underlying44 rfl (by kernel_rfl)) rfl ?_
  have F := five_new w (.cells #[.string sObject, .string ⟨#[]⟩, .slice none 0 0, .int .i64 33, .int .i64 0, .slice (some ⟨w.heap.size + 1 + 1 + 1 + 1, 0, none⟩) 3 3] 44) (.cells (instC 38 0).toArray 83) (.cells (instC 1 7 ++ instC 36 0).toArray 83) (.cells (instC 4 0 ++ instC 37 0).toArray 83)
    (.cells (methC w.heap.size).toArray 51)
  exact ⟨_, rfl, objR (Nat.le_refl _) F.2.1 F.2.2.1 F.2.2.2.1 F.2.2.2.2.1, F.2.2.2.2.2⟩
end Go.Proofs.YtmlifggklaeieaaDoor.Hi

/- hier.New: a world of Object, Cloneable and Serializable. -/
namespace Go.Proofs.YtmlifggklaeieaaDoor.Hi
open Go Go.RowKit Go.Proofs.YtmlifggklaeieaaDoorW.PrintWords Go.Proofs.YtmlifggklaeieaaDoorW.PrintLast Go.Proofs.YtmlifggklaeieaaDoorW.PrintMore Go.Proofs.YtmlifggklaeieaaDoor.Pt
set_option linter.unusedVariables false
set_option linter.unusedSimpArgs false
set_option maxHeartbeats 2000000
set_option maxRecDepth 100000

def sCloneable : ByteArray := ⟨#[67, 108, 111, 110, 101, 97, 98, 108, 101]⟩
def sSerializable : ByteArray := ⟨#[83, 101, 114, 105, 97, 108, 105, 122, 97, 98, 108, 101]⟩
def ifaceC (s : ByteArray) : S44 := ⟨s, sObject, [], 1537, 0, []⟩
def newE : List Ent := [⟨objC, -1, 0, []⟩, ⟨ifaceC sCloneable, 0, 1, []⟩, ⟨ifaceC sSerializable, 0, 1, []⟩]
theorem WIn.start (w : World) : WIn ((w.alloc (.map #[] 0)).alloc (.cells #[.slice none 0 0, .map (some w.heap.size)] 88)) w.heap.size (w.heap.size + 1) (.slice none 0 0) w.heap.size [] [] := by
  have e0 : (w.alloc (.map #[] 0)).heap.size = w.heap.size + 1 := by simp
  refine ⟨Nat.le_succ _, ?_, Kd.R_nil _ _ _ _ _, rfl, fun j x p hx => by simp at hx, Nat.le_refl _, .map [], ?_, MapSays.nil⟩
  · have := blk_new (w.alloc (.map #[] 0)) (.cells #[.slice none 0 0, .map (some w.heap.size)] 88)
    rwa [e0] at this
  · exact (World.ownsMap_made w _ _ _).alloc _
theorem ne_size {a b : ByteArray} (h : a.size ≠ b.size) : a ≠ b := fun e => h (by rw [e])
theorem notIn1 : sCloneable ∉ ([putE [] objC (-1) []] : List Ent).map (·.c.f0) := by
  intro h
  exact ne_size (by decide) (List.mem_singleton.1 h)
theorem notIn2 : sSerializable ∉ ([putE [] objC (-1) [], putE [putE [] objC (-1) []] (ifaceC sCloneable) 0 []] : List Ent).map (·.c.f0) := by
  intro h
  rcases List.mem_cons.1 h with h | h
  · exact ne_size (by decide) h
  · exact ne_size (by decide) (List.mem_singleton.1 h)
theorem new_any (w : World) : Calls Tryd.prog 23 #[] w fun e w' => ∃ g v mb ps, e = .returned (.pointer (some ⟨g, 0, none⟩)) ∧ WIn w' w.heap.size g v mb ps newE ∧ Below w.heap.size w w' := by
  have hmm := @run_makeMap Tryd.prog
  have S0 := Lib.hid (WIn.start w)
  have B0 : Hid (Below w.heap.size w ((w.alloc (.map #[] 0)).alloc (.cells #[.slice none 0 0, .map (some w.heap.size)] 88))) := Lib.hid (((Below.refl _ _).alloc (Nat.le_refl _) _).alloc (by simp) _)
  go_enter Tryd.func23, Tryd.ntmps23
  go_wp2_with fail
  refine (object_any _).mono ?_
  rintro e w1 ⟨v5, rfl, R5, hb1⟩
  obtain ⟨A5, c5, rfl⟩ := Kd.R_slice R5
  have S1 := Lib.hid (S0.out.below hb1)
  have B1 := Lib.hid (B0.out.trans (hb1.mono B0.out.size))
  have P1 := Lib.hid (put_any w1 w.heap.size (w.heap.size + 1) _ w.heap.size [] [] S1.out B1.out.size objC.f0 objC.f1 (.slice none 0 0) (.slice A5 objC.f5.length c5) [] objC.f3 objC.f4 objC.f5 (Kd.R_nil _ _ _ _ _) (Kd.R_lower R5 B0.out.size) (-1) (.inl rfl) none 0 [] (Kd.C_nil _ _) (fun i hi => by cases hi) (by decide) (fun x hx => by cases hx) (by decide) (by simp) (by decide))
  clear S0 B0 R5 hb1
  go_wp2_with fail
  refine P1.out.mono ?_
  rintro e w2 ⟨rfl, v2, p, S2, hb2, hk2⟩
  have RB := Lib.hid (blk_new w2 (.cells #[.string sCloneable, .string sSerializable] 9))
  have AB := (Below.refl w2.heap.size w2).alloc (Nat.le_refl _) (.cells #[.string sCloneable, .string sSerializable] 9)
  have S3 := Lib.hid (S2.below AB)
  have B2 := B1.out.trans hb2
  have B3 := Lib.hid (B2.trans (AB.mono B2.size))
  clear P1 S1 B1 S2 hb2 hk2 AB B2
  go_wp2_with fail
  change Code.wp _ _ _ _ (w2.alloc (.cells #[.string sCloneable, .string sSerializable] 9))
  generalize w2.alloc (.cells #[.string sCloneable, .string sSerializable] 9) = w3 at *
  have q0 : w3.cell? ⟨w2.heap.size, 0, none⟩ = some (.string sCloneable) := (blk_cell RB.out 0).trans rfl
  have P2 := Lib.hid (put_any w3 w.heap.size (w.heap.size + 1) _ w.heap.size _ _ S3.out B3.out.size sCloneable sObject (.slice none 0 0) (.slice none 0 0) [] 1537 0 [] (Kd.R_nil _ _ _ _ _) (Kd.R_nil _ _ _ _ _) 0 (.inr ⟨by omega, by decide⟩) none 0 [] (Kd.C_nil _ _) (fun i hi => by cases hi) (by decide) (fun x hx => by
    rw [List.mem_singleton.1 hx]
    exact ⟨Rng.nil _, by decide, by decide⟩) (by decide) notIn1 (by decide))
  clear S3
  refine wp_loop_rounds 3 ?_
  rw [rounds_succ]
  go_wp2_with fail
  refine P2.out.mono ?_
  rintro e w4 ⟨rfl, v4, p4, S4, hb4, hk4⟩
  have B4 := Lib.hid (B3.out.trans hb4)
  have RB4 := Lib.hid (hk4 _ _ _ RB.out (by decide) (by decide))
  have q1 : w4.cell? ⟨w2.heap.size, 1, none⟩ = some (.string sSerializable) := (blk_cell RB4.out 1).trans rfl
  have P3 := Lib.hid (put_any w4 w.heap.size (w.heap.size + 1) _ w.heap.size _ _ S4 B4.out.size sSerializable sObject (.slice none 0 0) (.slice none 0 0) [] 1537 0 [] (Kd.R_nil _ _ _ _ _) (Kd.R_nil _ _ _ _ _) 0 (.inr ⟨by omega, by decide⟩) none 0 [] (Kd.C_nil _ _) (fun i hi => by cases hi) (by decide) (fun x hx => by
    rcases List.mem_cons.1 hx with rfl | hx
    · exact ⟨Rng.nil _, by decide, by decide⟩
    · rw [List.mem_singleton.1 hx]
      exact ⟨Rng.nil _, by decide, by decide⟩) (by decide) notIn2 (by decide))
  clear S4 hb4 hk4 P2 B3 RB RB4 q0
  go_wp2_with fail
  rw [rounds_succ]
  go_wp2_with fail
  refine P3.out.mono ?_
  rintro e w5 ⟨rfl, v5, p5, S5, hb5, hk5⟩
  have B5 := Lib.hid (B4.out.trans hb5)
  replace S5 := Lib.hid S5
  clear hb5 hk5 P3 B4 q1
  go_wp2_with fail
  rw [rounds_succ]
  go_wp2
  go_ret
  exact ⟨_, _, _, _, rfl, S5.out, B5.out⟩
end Go.Proofs.YtmlifggklaeieaaDoor.Hi

/- A new world is a sound one. -/
namespace Go.Proofs.YtmlifggklaeieaaDoor.Pt
open Go Go.RowKit Go.Proofs.YtmlifggklaeieaaDoor.Nm Go.Proofs.YtmlifggklaeieaaDoor.Hi Go.Proofs.YtmlifggklaeieaaDoorW.PrintWords Go.Proofs.YtmlifggklaeieaaDoorW.PrintLast Go.Proofs.YtmlifggklaeieaaDoorW.PrintMore
set_option linter.unusedVariables false
set_option linter.unusedSimpArgs false

theorem fine_new : ∀ x ∈ newE, Fine x := by
  intro x hx
  simp only [newE, List.mem_cons, List.not_mem_nil, or_false] at hx
  rcases hx with rfl | rfl | rfl
  · exact ⟨⟨by decide, by decide, by decide⟩, by decide, by decide⟩
  · exact ⟨⟨by decide, by decide, by decide⟩, by decide, by decide⟩
  · exact ⟨⟨by decide, by decide, by decide⟩, by decide, by decide⟩
theorem tree_new : Tree newE := by
  intro i x hx
  match i, hx with
  | 0, hx => simp [newE] at hx; subst hx; exact .inl ⟨rfl, rfl⟩
  | 1, hx => simp [newE] at hx; subst hx; exact .inr ⟨by decide, by decide, by decide⟩
  | 2, hx => simp [newE] at hx; subst hx; exact .inr ⟨by decide, by decide, by decide⟩
  | i + 3, hx => simp [newE] at hx
theorem wok_new {w : World} {base g : Nat} {v : Value} {mb : Nat} {ps : List Nat} (h : WIn w base g v mb ps newE) : WOK w g newE := ⟨⟨_, _, _, _, h⟩, fine_new, tree_new, by decide⟩
end Go.Proofs.YtmlifggklaeieaaDoor.Pt

/- Access asked of a nil world. -/
namespace Go.Proofs.YtmlifggklaeieaaDoor.Pt
open Go Go.RowKit Go.Proofs.YtmlifggklaeieaaDoor.Nm Go.Proofs.YtmlifggklaeieaaDoor.Hi Go.Proofs.YtmlifggklaeieaaDoorW.PrintWords Go.Proofs.YtmlifggklaeieaaDoorW.PrintLast Go.Proofs.YtmlifggklaeieaaDoorW.PrintMore
set_option linter.unusedVariables false
set_option linter.unusedSimpArgs false
set_option maxHeartbeats 2000000
set_option maxRecDepth 100000

theorem below_set2 {W0 W : World} {base g : Nat} (h : Below base W0 W) (hg : base ≤ g) (u0 u1 : Value) : Below base W0 ((W.setCell ⟨g, 0, none⟩ u0).setCell ⟨g, 1, none⟩ u1) := (h.setCell (p := ⟨g, 0, none⟩) hg u0).setCell (p := ⟨g, 1, none⟩) hg u1
theorem access_ClassOpen_nil.calls (a1 : Int) (a2 : Int) (r1 : Bool) (r2 : Int) (w : World) (h : access_ClassOpen_nil.f a1 a2 = some (r1, r2)) :
    Calls Tryd.prog 9 #[.pointer none, .int .i64 a1, .int .i64 a2] w fun e w' => e = .returned (.tuple #[.bool r1, .int .i64 r2]) ∧ Below w.heap.size w w' := by
  have h := Option.some.inj h
  simp only [Prod.mk.injEq] at h
  obtain ⟨rfl, rfl⟩ := h
  have HN := Lib.hid (home_nil a1)
  go_enter Tryd.func9, Tryd.ntmps9
  go_wp2_with fail
  refine (HN.out _).mono ?_
  rintro e w1 ⟨vc, rfl, ⟨v2, v5, rfl, R2, R5⟩, hb⟩
  obtain ⟨A2, c2, rfl⟩ := Kd.R_slice R2
  obtain ⟨A5, c5, rfl⟩ := Kd.R_slice R5
  have HB : Hid (Below w.heap.size w w1) := Lib.hid (hb)
  clear R2 R5 hb
  rw [show homeV 0 ⟨#[]⟩ = .agg #[.int .i64 0, .string ⟨#[]⟩] from rfl]
  go_wp2
  go_ret2
  exact ⟨rfl, by repeat (first | exact HB.out | refine below_alloc ?_ _)⟩
theorem access_TypeOpen_nil.calls (a1 : Int) (a2_0 : Int) (a2_1 : ByteArray) (r1 : Bool) (r2 : Int) (w : World) (h : access_TypeOpen_nil.f a1 a2_0 a2_1 = some (r1, r2)) :
    Calls Tryd.prog 10 #[.pointer none, .int .i64 a1, .agg #[.int .i64 a2_0, .string a2_1]] w fun e w' => e = .returned (.tuple #[.bool r1, .int .i64 r2]) ∧ Below w.heap.size w w' := by
  have h := Option.some.inj h
  simp only [Prod.mk.injEq] at h
  obtain ⟨rfl, rfl⟩ := h
  have HN := Lib.hid (home_nil a1)
  go_enter Tryd.func10, Tryd.ntmps10
  go_wp2_with fail
  refine (HN.out _).mono ?_
  rintro e w1 ⟨vc, rfl, ⟨v2, v5, rfl, R2, R5⟩, hb⟩
  obtain ⟨A2, c2, rfl⟩ := Kd.R_slice R2
  obtain ⟨A5, c5, rfl⟩ := Kd.R_slice R5
  have HB : Hid (Below w.heap.size w w1) := Lib.hid ((below_alloc (Below.refl w.heap.size w) _).trans (hb.mono (by simp)))
  clear R2 R5 hb
  rw [show homeV 0 ⟨#[]⟩ = .agg #[.int .i64 0, .string ⟨#[]⟩] from rfl]
  go_wp2
  go_ret2
  exact ⟨rfl, by repeat (first | exact HB.out | refine below_alloc ?_ _)⟩
theorem access_MethodOpen_nil.calls (a1 : Int) (a2_0 : Int) (a2_1 : Int) (a3 : Int) (r1 : Bool) (r2 : Int) (w : World) (h : access_MethodOpen_nil.f a1 a2_0 a2_1 a3 = some (r1, r2)) :
    Calls Tryd.prog 11 #[.pointer none, .int .i64 a1, .agg #[.int .i64 a2_0, .int .i64 a2_1], .int .i64 a3] w fun e w' => e = .returned (.tuple #[.bool r1, .int .i64 r2]) ∧ Below w.heap.size w w' := by
  have h := Option.some.inj h
  simp only [Prod.mk.injEq] at h
  obtain ⟨rfl, rfl⟩ := h
  have HN := Lib.hid (home_nil a1)
  go_enter Tryd.func11, Tryd.ntmps11
  go_wp2_with fail
  refine (HN.out _).mono ?_
  rintro e w1 ⟨vc, rfl, ⟨v2, v5, rfl, R2, R5⟩, hb⟩
  obtain ⟨A2, c2, rfl⟩ := Kd.R_slice R2
  obtain ⟨A5, c5, rfl⟩ := Kd.R_slice R5
  have HB : Hid (Below w.heap.size w w1) := Lib.hid ((below_alloc (Below.refl w.heap.size w) _).trans (hb.mono (by simp)))
  clear R2 R5 hb
  rw [show homeV 0 ⟨#[]⟩ = .agg #[.int .i64 0, .string ⟨#[]⟩] from rfl]
  go_wp2
  go_ret2
  exact ⟨rfl, by repeat (first | exact HB.out | refine below_alloc ?_ _)⟩
theorem access_Package_nil.calls (a1 : Int) (r1 : Int) (r2 : ByteArray) (r3 : Int) (w : World) (h : access_Package_nil.f a1 = some (r1, r2, r3)) :
    Calls Tryd.prog 12 #[.pointer none, .int .i64 a1] w fun e w' => e = .returned (.tuple #[.int .i64 r1, .string r2, .int .i64 r3]) ∧ Below w.heap.size w w' := by
  have h := Option.some.inj h
  simp only [Prod.mk.injEq] at h
  obtain ⟨rfl, rfl, rfl⟩ := h
  have HN := Lib.hid (home_nil a1)
  go_enter Tryd.func12, Tryd.ntmps12
  go_wp2_with fail
  refine (HN.out _).mono ?_
  rintro e w1 ⟨vc, rfl, ⟨v2, v5, rfl, R2, R5⟩, hb⟩
  obtain ⟨A2, c2, rfl⟩ := Kd.R_slice R2
  obtain ⟨A5, c5, rfl⟩ := Kd.R_slice R5
  have HB : Hid (Below w.heap.size w w1) := Lib.hid (hb)
  clear R2 R5 hb
  rw [show homeV 0 ⟨#[]⟩ = .agg #[.int .i64 0, .string ⟨#[]⟩] from rfl]
  go_wp2
  go_region
  all_goals go_wp2
  all_goals go_ret3
  all_goals exact ⟨rfl, by repeat (first | exact HB.out | apply below_drew1 | refine below_alloc ?_ _)⟩
end Go.Proofs.YtmlifggklaeieaaDoor.Pt

/- access.ClassOpen, walked by hand. -/
namespace Go.Proofs.YtmlifggklaeieaaDoor.Pt
open Go Go.RowKit Go.Proofs.YtmlifggklaeieaaDoor.Nm Go.Proofs.YtmlifggklaeieaaDoor.Hi Go.Proofs.YtmlifggklaeieaaDoorW.PrintWords Go.Proofs.YtmlifggklaeieaaDoorW.PrintLast Go.Proofs.YtmlifggklaeieaaDoorW.PrintMore
set_option linter.unusedVariables false
set_option linter.unusedSimpArgs false
set_option maxHeartbeats 2000000
set_option maxRecDepth 100000

theorem tl_eq {a b : ByteArray} (h : a.toList = b.toList) : a = b := by
  rw [ByteArray.toList_eq, ByteArray.toList_eq] at h
  exact ByteArray.ext (Array.toList_inj.1 h)
theorem two_new (w : World) (o1 o2 : Obj) : ((w.alloc o1).alloc o2).heap[w.heap.size]? = some o1 ∧ ((w.alloc o1).alloc o2).heap[w.heap.size + 1]? = some o2 ∧ Below w.heap.size w ((w.alloc o1).alloc o2) :=
  ⟨heap_alloc2_old w o1 o2, heap_alloc2_new w o1 o2, ((Below.refl _ _).alloc (Nat.le_refl _) o1).alloc (by simp) o2⟩
/-- Whether two run-time packages are one. -/
def nearF (h1 h2 : Int × ByteArray × S44 × Int) : Bool := decide (h1.1 = h2.1) && decide (h1.2.1 = h2.2.1)
def copenF (es : List Ent) (d c : Int) : Bool × Int :=
  if (homeF es d).2.2.2 ≠ 0 then (false, (homeF es d).2.2.2) else if (homeF es c).2.2.2 ≠ 0 then (false, (homeF es c).2.2.2) else
  ((Go.bits .and .i64 (homeF es c).2.2.1.f3 1 != 0) || nearF (homeF es d) (homeF es c), 0)
def access_ClassOpen.f (a0 : List Hi.Ent) (a1 : Int) (a2 : Int) : Option (Bool × Int) := some (copenF a0 a1 a2)
theorem access_ClassOpen.calls (G_ : Nat) (a0 : List Hi.Ent) (a1 : Int) (a2 : Int) (r1 : Bool) (r2 : Int) (w : World) (hq0 : WOK w G_ a0) (h : access_ClassOpen.f a0 a1 a2 = some (r1, r2)) :
    Calls Tryd.prog 9 #[.pointer (some ⟨G_, 0, none⟩), .int .i64 a1, .int .i64 a2] w fun e w' => e = .returned (.tuple #[.bool r1, .int .i64 r2]) ∧ Below w.heap.size w w' := by
  obtain h := Option.some.inj h
  have hF := Lib.hid h
  have HO := fun (W : World) (hb : Below w.heap.size w W) (i : Int) => access_homeOf.calls G_ a0 i _ _ _ _ _ _ _ _ _ W (hq0.below hb) rfl
  replace HO := Lib.hid HO
  clear h hq0
  have C1 := Lib.hid (HO.out w (Below.refl _ _) a1)
  unfold copenF at hF
  generalize homeF a0 a1 = h1 at *
  obtain ⟨l1, n1, x1, e1⟩ := h1
  go_enter Tryd.func9, Tryd.ntmps9
  go_upto_region 1 with (fail)
  go_cut [0, 1, 2, 6, 7, 8, 10] (fun v0 v1 v2 v6 v7 v8 v10 wr => v0 = .pointer (some ⟨G_, 0, none⟩) ∧ v1 = .int .i64 a1 ∧ v2 = .int .i64 a2 ∧ v10 = .int .i64 e1 ∧ ∃ g1, v8 = .pointer (some ⟨g1, 0, none⟩) ∧ Hid (wr.heap[g1]? = some (.cells #[.int .i64 l1, .string n1] 61 (0, 0))) ∧ Hid (Below w.heap.size w wr))
  case first =>
    go_wp2_with fail
    refine C1.out.mono ?_
    rintro e w1 ⟨v2, v5, rfl, R2, R5, hb1⟩
    obtain ⟨A2, c2, rfl⟩ := Kd.R_slice R2
    obtain ⟨A5, c5, rfl⟩ := Kd.R_slice R5
    clear C1
    go_wp2
    go_meet
    case rel => exact ⟨rfl, rfl, rfl, rfl, _, rfl, Lib.hid (two_new _ _ _).1, Lib.hid (hb1.trans ((two_new _ _ _).2.2.mono hb1.size))⟩
  case rest =>
    clear C1
    obtain ⟨rfl, rfl, rfl, rfl, g1, rfl, E1, HB⟩ := hcut
    by_cases he1 : e1 = 0
    · subst he1
      rw [if_neg (by simp)] at hF
      have C2 := Lib.hid (HO.out wc HB.out a2)
      clear HO
      generalize homeF a0 a2 = h2 at *
      obtain ⟨l2, n2, x2, e2⟩ := h2
      go_upto_region 4 with (fail)
      go_cut [0, 1, 2, 6, 7, 8, 10, 11, 12] (fun v0 v1 v2 v6 v7 v8 v10 v11 v12 wr => v8 = .pointer (some ⟨g1, 0, none⟩) ∧ v10 = .int .i64 e2 ∧ ∃ g2 v1 v2 v4 v5, v11 = .pointer (some ⟨g2, 0, none⟩) ∧ v12 = .pointer (some ⟨g2 + 1, 0, none⟩) ∧ Hid (wr.heap[g1]? = some (.cells #[.int .i64 l1, .string n1] 61 (0, 0))) ∧ Hid (wr.heap[g2]? = some (.cells #[.int .i64 l2, .string n2] 61 (0, 0))) ∧
        Hid (wr.heap[g2 + 1]? = some (.cells #[.string x2.f0, v1, v2, .int .i64 x2.f3, v4, v5] 44 (0, 0))) ∧ Hid (Below w.heap.size w wr))
      case first =>
        go_wp2_with fail
        refine C2.out.mono ?_
        rintro e w2 ⟨v2, v5, rfl, R2, R5, hb2⟩
        obtain ⟨A2, c2, rfl⟩ := Kd.R_slice R2
        obtain ⟨A5, c5, rfl⟩ := Kd.R_slice R5
        clear C2
        go_wp2
        go_meet
        case rel => exact ⟨rfl, rfl, _, _, _, _, _, rfl, rfl, Lib.hid (blk_below (blk_below E1.out hb2) (two_new _ _ _).2.2), Lib.hid (two_new _ _ _).1, Lib.hid (two_new _ _ _).2.1, Lib.hid ((HB.out.trans (hb2.mono HB.out.size)).trans ((two_new _ _ _).2.2.mono (HB.out.trans (hb2.mono HB.out.size)).size))⟩
      case rest =>
        clear C2 E1 HB
        obtain ⟨rfl, rfl, g2, u1, u2, u4, u5, rfl, rfl, E1, E2, E3, HB⟩ := hcut
        by_cases he2 : e2 = 0
        · subst he2
          rw [if_neg (by simp)] at hF
          have q0 : wc.cell? ⟨g1, 0, none⟩ = some (.int .i64 l1) := (blk_cell E1.out 0).trans rfl
          have q1 : wc.cell? ⟨g1, 1, none⟩ = some (.string n1) := (blk_cell E1.out 1).trans rfl
          have r0 : wc.cell? ⟨g2, 0, none⟩ = some (.int .i64 l2) := (blk_cell E2.out 0).trans rfl
          have r1 : wc.cell? ⟨g2, 1, none⟩ = some (.string n2) := (blk_cell E2.out 1).trans rfl
          have r3 : wc.cell? ⟨g2 + 1, 3, none⟩ = some (.int .i64 x2.f3) := (blk_cell E3.out 3).trans rfl
          by_cases hp : Go.bits .and .i64 x2.f3 1 = 0
          · have hp2 : (Go.bits .and .i64 x2.f3 1 != 0) = false := bne_eq_false_iff_eq.2 hp
            rw [hp2, Bool.false_or] at hF
            clear hp
            go_wp2
            all_goals go_ret2
            all_goals have hh := Prod.mk.inj hF.out
            all_goals refine ⟨?_, HB.out⟩
            all_goals rw [← hh.1, ← hh.2]
            · simp [nearF, *]
              exact tl_eq (by assumption)
            · simp [nearF, *]
              intro e
              subst e
              simp_all
            · simp [nearF, *]
          · have hp2 : (Go.bits .and .i64 x2.f3 1 != 0) = true := bne_iff_ne.2 hp
            rw [hp2, Bool.true_or] at hF
            clear hp
            go_wp2
            go_ret2
            have := hF.out
            cases this
            exact ⟨rfl, HB.out⟩
        · have hne : (e2 != 0) = true := bne_iff_ne.2 he2
          rw [if_pos he2] at hF
          clear he2
          go_wp2
          go_ret2
          have := hF.out
          cases this
          exact ⟨rfl, HB.out⟩
    · have hne : (e1 != 0) = true := bne_iff_ne.2 he1
      rw [if_pos he1] at hF
      clear he1 HO
      go_wp2
      go_ret2
      have := hF.out
      cases this
      exact ⟨rfl, HB.out⟩
end Go.Proofs.YtmlifggklaeieaaDoor.Pt

/- arbiterlaw08.awake: what the document fixes of a new world. -/
namespace Go.Proofs.YtmlifggklaeieaaDoor.Pt
open Go Go.RowKit Go.Proofs.YtmlifggklaeieaaDoor.Nm Go.Proofs.YtmlifggklaeieaaDoor.Hi Go.Proofs.YtmlifggklaeieaaDoorW.PrintWords Go.Proofs.YtmlifggklaeieaaDoorW.PrintLast Go.Proofs.YtmlifggklaeieaaDoorW.PrintMore
set_option linter.unusedVariables false
set_option linter.unusedSimpArgs false
set_option maxHeartbeats 2000000
set_option maxRecDepth 100000

theorem open_new : access_ClassOpen.f newE 1 0 = some (true, 0) := by
  unfold access_ClassOpen.f copenF
  rfl
def arbiterlaw08_awake.f : Option Bool := some true
theorem arbiterlaw08_awake.calls (r : Bool) (w : World) (h : arbiterlaw08_awake.f = some r) : Calls Tryd.prog 8 #[] w fun e w' => e = .returned (.bool r) ∧ Below w.heap.size w w' := by
  obtain rfl := Option.some.inj h
  go_enter Tryd.func8, Tryd.ntmps8
  go_wp2_with fail
  refine (new_any _).mono ?_
  rintro e w1 ⟨g, v, mb, ps, rfl, hI, hb⟩
  have HO := Lib.hid (access_ClassOpen.calls g newE 1 0 true 0 w1 (wok_new hI) open_new)
  have HB := Lib.hid hb
  clear hI hb
  go_wp2_with fail
  refine HO.out.mono ?_
  rintro e w2 ⟨rfl, hb2⟩
  have HB2 := Lib.hid (HB.out.trans (hb2.mono HB.out.size))
  clear hb2
  go_wp2
  go_ret
  exact ⟨rfl, HB2.out⟩
end Go.Proofs.YtmlifggklaeieaaDoor.Pt

-- laid by a program of this session's own (a variant of the kit's print)
namespace Go.Proofs.YtmlifggklaeieaaDoor.Pt
open Go.RowKit Go.Proofs.YtmlifggklaeieaaDoorW.PrintWords Go.Proofs.YtmlifggklaeieaaDoorW.PrintLast Go.Proofs.YtmlifggklaeieaaDoorW.PrintMore
attribute [local go_sem] max2_int min2_int max_two min_two max_three min_three max_four min_four   -- for this text's walks alone
set_option linter.unusedVariables false
set_option linter.unusedSimpArgs false

/-! ### arbiterlaw08_AccessNil: function 3 -/
def arbiterlaw08_AccessNil.f  : Option (Bool) := (arbiterlaw08_awake.f).bind fun t228 => (if t228 = true then ((access_ClassOpen_nil.f 0 0).bind fun bt229 => ((access_TypeOpen_nil.f 0 0 (⟨#[]⟩ : ByteArray)).bind fun bt231 => ((access_MethodOpen_nil.f 0 0 0 0).bind fun bt233 => ((access_Package_nil.f 0).bind fun bt235 => (if bt229.2 = 2 then (if bt231.2 = 2 then (if bt233.2 = 2 then (some (bt235.2.2 == 2)) else (some false)) else (some false)) else (some false)))))) else (some false))
set_option maxHeartbeats 8000000 in
set_option maxRecDepth 100000 in
theorem arbiterlaw08_AccessNil.calls  (r : Bool) (w : World) (h : arbiterlaw08_AccessNil.f  = some r) :
    Calls Tryd.prog 3 #[] w fun e w' => e = .returned (.bool r) ∧ Below w.heap.size w w' := by
  have hu28 := Tryd.underlying28
  have hu31 := Tryd.underlying31
  have HB := Aside0.mk (Below.refl w.heap.size w)
  have H : ((arbiterlaw08_awake.f).bind fun t228 => (if t228 = true then ((access_ClassOpen_nil.f 0 0).bind fun bt229 => ((access_TypeOpen_nil.f 0 0 (⟨#[]⟩ : ByteArray)).bind fun bt231 => ((access_MethodOpen_nil.f 0 0 0 0).bind fun bt233 => ((access_Package_nil.f 0).bind fun bt235 => (if bt229.2 = 2 then (if bt231.2 = 2 then (if bt233.2 = 2 then (some (bt235.2.2 == 2)) else (some false)) else (some false)) else (some false)))))) else (some false))) = some r := h
  clear h
  replace H := Option.bind_eq_some_iff.mp H
  obtain ⟨t228, A10, H⟩ := H
  replace H : (if t228 = true then ((access_ClassOpen_nil.f 0 0).bind fun bt229 => ((access_TypeOpen_nil.f 0 0 (⟨#[]⟩ : ByteArray)).bind fun bt231 => ((access_MethodOpen_nil.f 0 0 0 0).bind fun bt233 => ((access_Package_nil.f 0).bind fun bt235 => (if bt229.2 = 2 then (if bt231.2 = 2 then (if bt233.2 = 2 then (some (bt235.2.2 == 2)) else (some false)) else (some false)) else (some false)))))) else (some false)) = some r := H
  have A1 := Aside0.mk A10
  clear A10
  by_cases c2 : t228 = true
  · subst c2
    have H1 : ((access_ClassOpen_nil.f 0 0).bind fun bt229 => ((access_TypeOpen_nil.f 0 0 (⟨#[]⟩ : ByteArray)).bind fun bt231 => ((access_MethodOpen_nil.f 0 0 0 0).bind fun bt233 => ((access_Package_nil.f 0).bind fun bt235 => (if bt229.2 = 2 then (if bt231.2 = 2 then (if bt233.2 = 2 then (some (bt235.2.2 == 2)) else (some false)) else (some false)) else (some false)))))) = some r := by rw [if_pos rfl] at H; exact H
    clear H
    have H := H1
    clear H1
    replace H := Option.bind_eq_some_iff.mp H
    obtain ⟨⟨t229, t230⟩, A30, H⟩ := H
    replace H : ((access_TypeOpen_nil.f 0 0 (⟨#[]⟩ : ByteArray)).bind fun bt231 => ((access_MethodOpen_nil.f 0 0 0 0).bind fun bt233 => ((access_Package_nil.f 0).bind fun bt235 => (if t230 = 2 then (if bt231.2 = 2 then (if bt233.2 = 2 then (some (bt235.2.2 == 2)) else (some false)) else (some false)) else (some false))))) = some r := H
    have A3 := Aside0.mk A30
    clear A30
    replace H := Option.bind_eq_some_iff.mp H
    obtain ⟨⟨t231, t232⟩, A40, H⟩ := H
    replace H : ((access_MethodOpen_nil.f 0 0 0 0).bind fun bt233 => ((access_Package_nil.f 0).bind fun bt235 => (if t230 = 2 then (if t232 = 2 then (if bt233.2 = 2 then (some (bt235.2.2 == 2)) else (some false)) else (some false)) else (some false)))) = some r := H
    have A4 := Aside0.mk A40
    clear A40
    replace H := Option.bind_eq_some_iff.mp H
    obtain ⟨⟨t233, t234⟩, A50, H⟩ := H
    replace H : ((access_Package_nil.f 0).bind fun bt235 => (if t230 = 2 then (if t232 = 2 then (if t234 = 2 then (some (bt235.2.2 == 2)) else (some false)) else (some false)) else (some false))) = some r := H
    have A5 := Aside0.mk A50
    clear A50
    replace H := Option.bind_eq_some_iff.mp H
    obtain ⟨⟨t235, t236, t237⟩, A60, H⟩ := H
    replace H : (if t230 = 2 then (if t232 = 2 then (if t234 = 2 then (some (t237 == 2)) else (some false)) else (some false)) else (some false)) = some r := H
    have A6 := Aside0.mk A60
    clear A60
    by_cases c7 : t230 = 2
    · rw [if_pos c7] at H
      have c7b0 : (t230 == 2) = true := beq_iff_eq.mpr c7
      have c7b1 : (t230 != 2) = false := bne_eq_false_iff_eq.mpr c7
      clear c7
      by_cases c8 : t232 = 2
      · rw [if_pos c8] at H
        have c8b0 : (t232 == 2) = true := beq_iff_eq.mpr c8
        have c8b1 : (t232 != 2) = false := bne_eq_false_iff_eq.mpr c8
        clear c8
        by_cases c9 : t234 = 2
        · rw [if_pos c9] at H
          have c9b0 : (t234 == 2) = true := beq_iff_eq.mpr c9
          have c9b1 : (t234 != 2) = false := bne_eq_false_iff_eq.mpr c9
          clear c9
          obtain rfl := Option.some.inj H
          go_enter Tryd.func3, Tryd.ntmps3
          go_wp2_with (first | ((with_reducible refine gate_callee (f := 8) rfl ?_); refine goesL_ (some 10) rfl rfl Tryd.func8 (by kernel_rfl) rfl #[] rfl (by (try simp only [List.map_toArray, List.map_cons, List.map_nil]); first | done | rfl | (simp only [List.length_drop, List.length_take]; rfl)) ?_; (with_reducible refine (arbiterlaw08_awake.calls  true _ A1.out).mono ?_); rintro e w10 ⟨rfl, hb⟩; refine ⟨_, rfl, ?_⟩; have n0_ := Aside0.mk (below_step (by repeat (first | (with_reducible first | exact HB.out | apply below_alloc | apply pw_below_drewN | apply below_drew1) | exact HB.out)) hb); clear HB; have HB := n0_; clear n0_; (try clear hb); (try clear hb2); (try clear hk); (try clear hi)) | ((with_reducible refine gate_callee (f := 9) rfl ?_); refine goesL_ (some 13) rfl rfl Tryd.func9 (by kernel_rfl) rfl #[.pointer none, .int .i64 0, .int .i64 0] rfl (by (try simp only [List.map_toArray, List.map_cons, List.map_nil]); first | done | rfl | (simp only [List.length_drop, List.length_take]; rfl)) ?_; (with_reducible refine (access_ClassOpen_nil.calls 0 0 t229 t230 _ A3.out).mono ?_); rintro e w11 ⟨rfl, hb⟩; refine ⟨_, rfl, ?_⟩; have n0_ := Aside0.mk (below_step (by repeat (first | (with_reducible first | exact HB.out | apply below_alloc | apply pw_below_drewN | apply below_drew1) | exact HB.out)) hb); clear HB; have HB := n0_; clear n0_; (try clear hb); (try clear hb2); (try clear hk); (try clear hi)) | ((with_reducible refine gate_callee (f := 10) rfl ?_); refine goesL_ (some 18) rfl rfl Tryd.func10 (by kernel_rfl) rfl #[.pointer none, .int .i64 0, .agg #[.int .i64 0, .string (⟨#[]⟩ : ByteArray)]] rfl (by (try simp only [List.map_toArray, List.map_cons, List.map_nil]); first | done | rfl | (simp only [List.length_drop, List.length_take]; rfl)) ?_; (with_reducible refine (access_TypeOpen_nil.calls 0 0 (⟨#[]⟩ : ByteArray) t231 t232 _ A4.out).mono ?_); rintro e w12 ⟨rfl, hb⟩; refine ⟨_, rfl, ?_⟩; have n0_ := Aside0.mk (below_step (by repeat (first | (with_reducible first | exact HB.out | apply below_alloc | apply pw_below_drewN | apply below_drew1) | exact HB.out)) hb); clear HB; have HB := n0_; clear n0_; (try clear hb); (try clear hb2); (try clear hk); (try clear hi)) | ((with_reducible refine gate_callee (f := 11) rfl ?_); refine goesL_ (some 23) rfl rfl Tryd.func11 (by kernel_rfl) rfl #[.pointer none, .int .i64 0, .agg #[.int .i64 0, .int .i64 0], .int .i64 0] rfl (by (try simp only [List.map_toArray, List.map_cons, List.map_nil]); first | done | rfl | (simp only [List.length_drop, List.length_take]; rfl)) ?_; (with_reducible refine (access_MethodOpen_nil.calls 0 0 0 0 t233 t234 _ A5.out).mono ?_); rintro e w13 ⟨rfl, hb⟩; refine ⟨_, rfl, ?_⟩; have n0_ := Aside0.mk (below_step (by repeat (first | (with_reducible first | exact HB.out | apply below_alloc | apply pw_below_drewN | apply below_drew1) | exact HB.out)) hb); clear HB; have HB := n0_; clear n0_; (try clear hb); (try clear hb2); (try clear hk); (try clear hi)) | ((with_reducible refine gate_callee (f := 12) rfl ?_); refine goesL_ (some 27) rfl rfl Tryd.func12 (by kernel_rfl) rfl #[.pointer none, .int .i64 0] rfl (by (try simp only [List.map_toArray, List.map_cons, List.map_nil]); first | done | rfl | (simp only [List.length_drop, List.length_take]; rfl)) ?_; (with_reducible refine (access_Package_nil.calls 0 t235 t236 t237 _ A6.out).mono ?_); rintro e w14 ⟨rfl, hb⟩; refine ⟨_, rfl, ?_⟩; have n0_ := Aside0.mk (below_step (by repeat (first | (with_reducible first | exact HB.out | apply below_alloc | apply pw_below_drewN | apply below_drew1) | exact HB.out)) hb); clear HB; have HB := n0_; clear n0_; (try clear hb); (try clear hb2); (try clear hk); (try clear hi)))
          go_ret
          exact ⟨by first | rfl | (simp [errW_none, errW_some] <;> rfl) | (simp [*, errW_none, errW_some] <;> rfl), by repeat (first | (with_reducible first | exact HB.out | apply below_alloc | apply pw_below_drewN | apply below_drew1) | exact HB.out)⟩
        · rw [if_neg c9] at H
          have c9b0 : (t234 == 2) = false := beq_eq_false_iff_ne.mpr c9
          have c9b1 : (t234 != 2) = true := bne_iff_ne.mpr c9
          obtain rfl := Option.some.inj H
          go_enter Tryd.func3, Tryd.ntmps3
          go_wp2_with (first | ((with_reducible refine gate_callee (f := 8) rfl ?_); refine goesL_ (some 10) rfl rfl Tryd.func8 (by kernel_rfl) rfl #[] rfl (by (try simp only [List.map_toArray, List.map_cons, List.map_nil]); first | done | rfl | (simp only [List.length_drop, List.length_take]; rfl)) ?_; (with_reducible refine (arbiterlaw08_awake.calls  true _ A1.out).mono ?_); rintro e w15 ⟨rfl, hb⟩; refine ⟨_, rfl, ?_⟩; have n0_ := Aside0.mk (below_step (by repeat (first | (with_reducible first | exact HB.out | apply below_alloc | apply pw_below_drewN | apply below_drew1) | exact HB.out)) hb); clear HB; have HB := n0_; clear n0_; (try clear hb); (try clear hb2); (try clear hk); (try clear hi)) | ((with_reducible refine gate_callee (f := 9) rfl ?_); refine goesL_ (some 13) rfl rfl Tryd.func9 (by kernel_rfl) rfl #[.pointer none, .int .i64 0, .int .i64 0] rfl (by (try simp only [List.map_toArray, List.map_cons, List.map_nil]); first | done | rfl | (simp only [List.length_drop, List.length_take]; rfl)) ?_; (with_reducible refine (access_ClassOpen_nil.calls 0 0 t229 t230 _ A3.out).mono ?_); rintro e w16 ⟨rfl, hb⟩; refine ⟨_, rfl, ?_⟩; have n0_ := Aside0.mk (below_step (by repeat (first | (with_reducible first | exact HB.out | apply below_alloc | apply pw_below_drewN | apply below_drew1) | exact HB.out)) hb); clear HB; have HB := n0_; clear n0_; (try clear hb); (try clear hb2); (try clear hk); (try clear hi)) | ((with_reducible refine gate_callee (f := 10) rfl ?_); refine goesL_ (some 18) rfl rfl Tryd.func10 (by kernel_rfl) rfl #[.pointer none, .int .i64 0, .agg #[.int .i64 0, .string (⟨#[]⟩ : ByteArray)]] rfl (by (try simp only [List.map_toArray, List.map_cons, List.map_nil]); first | done | rfl | (simp only [List.length_drop, List.length_take]; rfl)) ?_; (with_reducible refine (access_TypeOpen_nil.calls 0 0 (⟨#[]⟩ : ByteArray) t231 t232 _ A4.out).mono ?_); rintro e w17 ⟨rfl, hb⟩; refine ⟨_, rfl, ?_⟩; have n0_ := Aside0.mk (below_step (by repeat (first | (with_reducible first | exact HB.out | apply below_alloc | apply pw_below_drewN | apply below_drew1) | exact HB.out)) hb); clear HB; have HB := n0_; clear n0_; (try clear hb); (try clear hb2); (try clear hk); (try clear hi)) | ((with_reducible refine gate_callee (f := 11) rfl ?_); refine goesL_ (some 23) rfl rfl Tryd.func11 (by kernel_rfl) rfl #[.pointer none, .int .i64 0, .agg #[.int .i64 0, .int .i64 0], .int .i64 0] rfl (by (try simp only [List.map_toArray, List.map_cons, List.map_nil]); first | done | rfl | (simp only [List.length_drop, List.length_take]; rfl)) ?_; (with_reducible refine (access_MethodOpen_nil.calls 0 0 0 0 t233 t234 _ A5.out).mono ?_); rintro e w18 ⟨rfl, hb⟩; refine ⟨_, rfl, ?_⟩; have n0_ := Aside0.mk (below_step (by repeat (first | (with_reducible first | exact HB.out | apply below_alloc | apply pw_below_drewN | apply below_drew1) | exact HB.out)) hb); clear HB; have HB := n0_; clear n0_; (try clear hb); (try clear hb2); (try clear hk); (try clear hi)) | ((with_reducible refine gate_callee (f := 12) rfl ?_); refine goesL_ (some 27) rfl rfl Tryd.func12 (by kernel_rfl) rfl #[.pointer none, .int .i64 0] rfl (by (try simp only [List.map_toArray, List.map_cons, List.map_nil]); first | done | rfl | (simp only [List.length_drop, List.length_take]; rfl)) ?_; (with_reducible refine (access_Package_nil.calls 0 t235 t236 t237 _ A6.out).mono ?_); rintro e w19 ⟨rfl, hb⟩; refine ⟨_, rfl, ?_⟩; have n0_ := Aside0.mk (below_step (by repeat (first | (with_reducible first | exact HB.out | apply below_alloc | apply pw_below_drewN | apply below_drew1) | exact HB.out)) hb); clear HB; have HB := n0_; clear n0_; (try clear hb); (try clear hb2); (try clear hk); (try clear hi)))
          go_ret
          exact ⟨by first | rfl | (simp [errW_none, errW_some] <;> rfl) | (simp [*, errW_none, errW_some] <;> rfl), by repeat (first | (with_reducible first | exact HB.out | apply below_alloc | apply pw_below_drewN | apply below_drew1) | exact HB.out)⟩
      · rw [if_neg c8] at H
        have c8b0 : (t232 == 2) = false := beq_eq_false_iff_ne.mpr c8
        have c8b1 : (t232 != 2) = true := bne_iff_ne.mpr c8
        obtain rfl := Option.some.inj H
        go_enter Tryd.func3, Tryd.ntmps3
        go_wp2_with (first | ((with_reducible refine gate_callee (f := 8) rfl ?_); refine goesL_ (some 10) rfl rfl Tryd.func8 (by kernel_rfl) rfl #[] rfl (by (try simp only [List.map_toArray, List.map_cons, List.map_nil]); first | done | rfl | (simp only [List.length_drop, List.length_take]; rfl)) ?_; (with_reducible refine (arbiterlaw08_awake.calls  true _ A1.out).mono ?_); rintro e w20 ⟨rfl, hb⟩; refine ⟨_, rfl, ?_⟩; have n0_ := Aside0.mk (below_step (by repeat (first | (with_reducible first | exact HB.out | apply below_alloc | apply pw_below_drewN | apply below_drew1) | exact HB.out)) hb); clear HB; have HB := n0_; clear n0_; (try clear hb); (try clear hb2); (try clear hk); (try clear hi)) | ((with_reducible refine gate_callee (f := 9) rfl ?_); refine goesL_ (some 13) rfl rfl Tryd.func9 (by kernel_rfl) rfl #[.pointer none, .int .i64 0, .int .i64 0] rfl (by (try simp only [List.map_toArray, List.map_cons, List.map_nil]); first | done | rfl | (simp only [List.length_drop, List.length_take]; rfl)) ?_; (with_reducible refine (access_ClassOpen_nil.calls 0 0 t229 t230 _ A3.out).mono ?_); rintro e w21 ⟨rfl, hb⟩; refine ⟨_, rfl, ?_⟩; have n0_ := Aside0.mk (below_step (by repeat (first | (with_reducible first | exact HB.out | apply below_alloc | apply pw_below_drewN | apply below_drew1) | exact HB.out)) hb); clear HB; have HB := n0_; clear n0_; (try clear hb); (try clear hb2); (try clear hk); (try clear hi)) | ((with_reducible refine gate_callee (f := 10) rfl ?_); refine goesL_ (some 18) rfl rfl Tryd.func10 (by kernel_rfl) rfl #[.pointer none, .int .i64 0, .agg #[.int .i64 0, .string (⟨#[]⟩ : ByteArray)]] rfl (by (try simp only [List.map_toArray, List.map_cons, List.map_nil]); first | done | rfl | (simp only [List.length_drop, List.length_take]; rfl)) ?_; (with_reducible refine (access_TypeOpen_nil.calls 0 0 (⟨#[]⟩ : ByteArray) t231 t232 _ A4.out).mono ?_); rintro e w22 ⟨rfl, hb⟩; refine ⟨_, rfl, ?_⟩; have n0_ := Aside0.mk (below_step (by repeat (first | (with_reducible first | exact HB.out | apply below_alloc | apply pw_below_drewN | apply below_drew1) | exact HB.out)) hb); clear HB; have HB := n0_; clear n0_; (try clear hb); (try clear hb2); (try clear hk); (try clear hi)) | ((with_reducible refine gate_callee (f := 11) rfl ?_); refine goesL_ (some 23) rfl rfl Tryd.func11 (by kernel_rfl) rfl #[.pointer none, .int .i64 0, .agg #[.int .i64 0, .int .i64 0], .int .i64 0] rfl (by (try simp only [List.map_toArray, List.map_cons, List.map_nil]); first | done | rfl | (simp only [List.length_drop, List.length_take]; rfl)) ?_; (with_reducible refine (access_MethodOpen_nil.calls 0 0 0 0 t233 t234 _ A5.out).mono ?_); rintro e w23 ⟨rfl, hb⟩; refine ⟨_, rfl, ?_⟩; have n0_ := Aside0.mk (below_step (by repeat (first | (with_reducible first | exact HB.out | apply below_alloc | apply pw_below_drewN | apply below_drew1) | exact HB.out)) hb); clear HB; have HB := n0_; clear n0_; (try clear hb); (try clear hb2); (try clear hk); (try clear hi)) | ((with_reducible refine gate_callee (f := 12) rfl ?_); refine goesL_ (some 27) rfl rfl Tryd.func12 (by kernel_rfl) rfl #[.pointer none, .int .i64 0] rfl (by (try simp only [List.map_toArray, List.map_cons, List.map_nil]); first | done | rfl | (simp only [List.length_drop, List.length_take]; rfl)) ?_; (with_reducible refine (access_Package_nil.calls 0 t235 t236 t237 _ A6.out).mono ?_); rintro e w24 ⟨rfl, hb⟩; refine ⟨_, rfl, ?_⟩; have n0_ := Aside0.mk (below_step (by repeat (first | (with_reducible first | exact HB.out | apply below_alloc | apply pw_below_drewN | apply below_drew1) | exact HB.out)) hb); clear HB; have HB := n0_; clear n0_; (try clear hb); (try clear hb2); (try clear hk); (try clear hi)))
        go_ret
        exact ⟨by first | rfl | (simp [errW_none, errW_some] <;> rfl) | (simp [*, errW_none, errW_some] <;> rfl), by repeat (first | (with_reducible first | exact HB.out | apply below_alloc | apply pw_below_drewN | apply below_drew1) | exact HB.out)⟩
    · rw [if_neg c7] at H
      have c7b0 : (t230 == 2) = false := beq_eq_false_iff_ne.mpr c7
      have c7b1 : (t230 != 2) = true := bne_iff_ne.mpr c7
      obtain rfl := Option.some.inj H
      go_enter Tryd.func3, Tryd.ntmps3
      go_wp2_with (first | ((with_reducible refine gate_callee (f := 8) rfl ?_); refine goesL_ (some 10) rfl rfl Tryd.func8 (by kernel_rfl) rfl #[] rfl (by (try simp only [List.map_toArray, List.map_cons, List.map_nil]); first | done | rfl | (simp only [List.length_drop, List.length_take]; rfl)) ?_; (with_reducible refine (arbiterlaw08_awake.calls  true _ A1.out).mono ?_); rintro e w25 ⟨rfl, hb⟩; refine ⟨_, rfl, ?_⟩; have n0_ := Aside0.mk (below_step (by repeat (first | (with_reducible first | exact HB.out | apply below_alloc | apply pw_below_drewN | apply below_drew1) | exact HB.out)) hb); clear HB; have HB := n0_; clear n0_; (try clear hb); (try clear hb2); (try clear hk); (try clear hi)) | ((with_reducible refine gate_callee (f := 9) rfl ?_); refine goesL_ (some 13) rfl rfl Tryd.func9 (by kernel_rfl) rfl #[.pointer none, .int .i64 0, .int .i64 0] rfl (by (try simp only [List.map_toArray, List.map_cons, List.map_nil]); first | done | rfl | (simp only [List.length_drop, List.length_take]; rfl)) ?_; (with_reducible refine (access_ClassOpen_nil.calls 0 0 t229 t230 _ A3.out).mono ?_); rintro e w26 ⟨rfl, hb⟩; refine ⟨_, rfl, ?_⟩; have n0_ := Aside0.mk (below_step (by repeat (first | (with_reducible first | exact HB.out | apply below_alloc | apply pw_below_drewN | apply below_drew1) | exact HB.out)) hb); clear HB; have HB := n0_; clear n0_; (try clear hb); (try clear hb2); (try clear hk); (try clear hi)) | ((with_reducible refine gate_callee (f := 10) rfl ?_); refine goesL_ (some 18) rfl rfl Tryd.func10 (by kernel_rfl) rfl #[.pointer none, .int .i64 0, .agg #[.int .i64 0, .string (⟨#[]⟩ : ByteArray)]] rfl (by (try simp only [List.map_toArray, List.map_cons, List.map_nil]); first | done | rfl | (simp only [List.length_drop, List.length_take]; rfl)) ?_; (with_reducible refine (access_TypeOpen_nil.calls 0 0 (⟨#[]⟩ : ByteArray) t231 t232 _ A4.out).mono ?_); rintro e w27 ⟨rfl, hb⟩; refine ⟨_, rfl, ?_⟩; have n0_ := Aside0.mk (below_step (by repeat (first | (with_reducible first | exact HB.out | apply below_alloc | apply pw_below_drewN | apply below_drew1) | exact HB.out)) hb); clear HB; have HB := n0_; clear n0_; (try clear hb); (try clear hb2); (try clear hk); (try clear hi)) | ((with_reducible refine gate_callee (f := 11) rfl ?_); refine goesL_ (some 23) rfl rfl Tryd.func11 (by kernel_rfl) rfl #[.pointer none, .int .i64 0, .agg #[.int .i64 0, .int .i64 0], .int .i64 0] rfl (by (try simp only [List.map_toArray, List.map_cons, List.map_nil]); first | done | rfl | (simp only [List.length_drop, List.length_take]; rfl)) ?_; (with_reducible refine (access_MethodOpen_nil.calls 0 0 0 0 t233 t234 _ A5.out).mono ?_); rintro e w28 ⟨rfl, hb⟩; refine ⟨_, rfl, ?_⟩; have n0_ := Aside0.mk (below_step (by repeat (first | (with_reducible first | exact HB.out | apply below_alloc | apply pw_below_drewN | apply below_drew1) | exact HB.out)) hb); clear HB; have HB := n0_; clear n0_; (try clear hb); (try clear hb2); (try clear hk); (try clear hi)) | ((with_reducible refine gate_callee (f := 12) rfl ?_); refine goesL_ (some 27) rfl rfl Tryd.func12 (by kernel_rfl) rfl #[.pointer none, .int .i64 0] rfl (by (try simp only [List.map_toArray, List.map_cons, List.map_nil]); first | done | rfl | (simp only [List.length_drop, List.length_take]; rfl)) ?_; (with_reducible refine (access_Package_nil.calls 0 t235 t236 t237 _ A6.out).mono ?_); rintro e w29 ⟨rfl, hb⟩; refine ⟨_, rfl, ?_⟩; have n0_ := Aside0.mk (below_step (by repeat (first | (with_reducible first | exact HB.out | apply below_alloc | apply pw_below_drewN | apply below_drew1) | exact HB.out)) hb); clear HB; have HB := n0_; clear n0_; (try clear hb); (try clear hb2); (try clear hk); (try clear hi)))
      go_ret
      exact ⟨by first | rfl | (simp [errW_none, errW_some] <;> rfl) | (simp [*, errW_none, errW_some] <;> rfl), by repeat (first | (with_reducible first | exact HB.out | apply below_alloc | apply pw_below_drewN | apply below_drew1) | exact HB.out)⟩
  · replace c2 := Bool.eq_false_iff.mpr c2
    subst c2
    have H1 : (some false) = some r := by rw [if_neg (show ¬ (false = true) by decide)] at H; exact H
    clear H
    have H := H1
    clear H1
    obtain rfl := Option.some.inj H
    go_enter Tryd.func3, Tryd.ntmps3
    go_wp2_with (first | ((with_reducible refine gate_callee (f := 8) rfl ?_); refine goesL_ (some 10) rfl rfl Tryd.func8 (by kernel_rfl) rfl #[] rfl (by (try simp only [List.map_toArray, List.map_cons, List.map_nil]); first | done | rfl | (simp only [List.length_drop, List.length_take]; rfl)) ?_; (with_reducible refine (arbiterlaw08_awake.calls  false _ A1.out).mono ?_); rintro e w30 ⟨rfl, hb⟩; refine ⟨_, rfl, ?_⟩; have n0_ := Aside0.mk (below_step (by repeat (first | (with_reducible first | exact HB.out | apply below_alloc | apply pw_below_drewN | apply below_drew1) | exact HB.out)) hb); clear HB; have HB := n0_; clear n0_; (try clear hb); (try clear hb2); (try clear hk); (try clear hi)))
    go_ret
    exact ⟨by first | rfl | (simp [errW_none, errW_some] <;> rfl) | (simp [*, errW_none, errW_some] <;> rfl), by repeat (first | (with_reducible first | exact HB.out | apply below_alloc | apply pw_below_drewN | apply below_drew1) | exact HB.out)⟩

end Go.Proofs.YtmlifggklaeieaaDoor.Pt

/- arbiterlaw08.AccessNil: a nil world. -/
namespace Go.Proofs.YtmlifggklaeieaaDoor.Pt
open Go Go.RowKit
theorem nil_any (W : World) : Calls Tryd.prog 3 #[] W fun e W' => e = .returned (.bool true) ∧ Below W.heap.size W W' := arbiterlaw08_AccessNil.calls true W rfl
end Go.Proofs.YtmlifggklaeieaaDoor.Pt
