/- Lemmas and contracts for the statement of PwDisplayKeeps: joined by program out of this session's texts. -/
import Derived.Test.YtaipkdglhfhhiaaGreatDoorBdPwDisplayKeeps1
import Derived.Test.YtaipkdglhfhhiaaGreatDoorProg
import Derived.Below
import Derived.Deep.Draws
import Derived.Deep.AppendLies
import Derived.Maps.AppendAt
import Derived.OwnWalk
import Derived.Laws.BytesArg
import Derived.Laws.MakeOwn
import Derived.Laws.OwnMore
import Derived.Deep.OwnRows
import Derived.Tactics
import Derived.Lib.ConvBytes
import Derived.Laws.Slices
import Derived.WalkKit
import Derived.KernelRfl
import Derived.RowKit3
import Derived.Deep.LoopGhost
import Derived.Deep.QuietTactic
import Derived.BigQuiet
import Derived.WideLaws
import Derived.Deep.DeepCutAuto
import Derived.Deep.CutBlock
import Derived.Deep.RegionHeld3
import Derived.Laws.Rows
import Derived.Lib.AppendStr
import Derived.ArgAppend
import Derived.Laws.IdiomCopy
import Derived.OrdersHeld
import Derived.Laws.BitsLemmas
import Derived.RowKit
import Derived.Handy
import Derived.Lib.Hide
import Derived.Lib.Split
import Derived.Lib.SplitLaws
import Derived.Lib.Join
import Derived.Lib.IndexLaws
import Derived.Lib.IndexBytes
import Derived.Shelf.Utf8.RuneCount
import Derived.Shelf.Strings.Search1
import Derived.Shelf.Strings.Search2
import Derived.Shelf.Strings.Search3
import Derived.Shelf.Strings.Cut
import Derived.Shelf.Strings.Count
import Derived.Shelf.LaysM
import Derived.Shelf.Strings.Shaped
import Derived.Shelf.Strings.LastIndex
import Derived.Shelf.Strings.Prefix
import Derived.Shelf.Strings.Split
import Derived.Shelf.Strings.SplitShaped
import Derived.Shelf.Unicode.Decode
import Derived.Shelf.Strings.RuneCount
import Derived.Shelf.Strings.Explode
import Derived.Shelf.Unicode.DecodeSlow
import Derived.Shelf.Unicode.DecodeAny
import Derived.Shelf.Slices.Turned
import Derived.Shelf.Slices.Reverse
import Derived.Ground.Names2Prog
import Derived.Shelf.Slices.Clone
import Derived.Shelf.Slices.Cells
import Derived.Ground.SlgnProg
import Derived.Shelf.SlicesE.Clone
import Derived.Ground.PaProg
import Derived.Shelf.Path.Small
import Derived.WalkLawsBesides
import Derived.RangeFuncBox
import Derived.Outline
import Derived.Laws.Tables
import Derived.WalkSpells
import Derived.Deep.RegionWith
import Derived.Maps.OwnSet
import Derived.Deep.DrawnRows
import Derived.Maps.Own
namespace Go.Proofs.YtaipkdglhfhhiaaGreatDoor.Pt
open Go.RowKit Go.Proofs.YtaipkdglhfhhiaaGreatDoorW.PrintWords Go.Proofs.YtaipkdglhfhhiaaGreatDoorW.PrintLast Go.Proofs.YtaipkdglhfhhiaaGreatDoorW.PrintMore
theorem bX {n : Nat} {w W0 W : World} (h : Aside0 (Below n w W0)) (k : Below n w W0 → Below n w W := by intro h_; repeat (first | (with_reducible first | exact h_ | apply below_alloc | apply pw_below_drewN | apply below_drew1) | exact h_)) : Below n w W := k h.out
theorem bX1 {n : Nat} {w W0 W : World} {g0 : Nat} (h : Aside0 (Below n w W0)) (q0 : Aside0 (n ≤ g0)) (k : Below n w W0 → n ≤ g0 → Below n w W := by intro h_ q0_; repeat (first | (with_reducible first | exact h_ | apply below_alloc | apply pw_below_drewN | apply below_drew1 | refine below_set ?_ q0_) | exact h_)) : Below n w W := k h.out q0.out
theorem bX2 {n : Nat} {w W0 W : World} {g0 : Nat} {g1 : Nat} (h : Aside0 (Below n w W0)) (q0 : Aside0 (n ≤ g0)) (q1 : Aside0 (n ≤ g1)) (k : Below n w W0 → n ≤ g0 → n ≤ g1 → Below n w W := by intro h_ q0_ q1_; repeat (first | (with_reducible first | exact h_ | apply below_alloc | apply pw_below_drewN | apply below_drew1 | refine below_set ?_ q0_ | refine below_set ?_ q1_) | exact h_)) : Below n w W := k h.out q0.out q1.out
theorem bX3 {n : Nat} {w W0 W : World} {g0 : Nat} {g1 : Nat} {g2 : Nat} (h : Aside0 (Below n w W0)) (q0 : Aside0 (n ≤ g0)) (q1 : Aside0 (n ≤ g1)) (q2 : Aside0 (n ≤ g2)) (k : Below n w W0 → n ≤ g0 → n ≤ g1 → n ≤ g2 → Below n w W := by intro h_ q0_ q1_ q2_; repeat (first | (with_reducible first | exact h_ | apply below_alloc | apply pw_below_drewN | apply below_drew1 | refine below_set ?_ q0_ | refine below_set ?_ q1_ | refine below_set ?_ q2_) | exact h_)) : Below n w W := k h.out q0.out q1.out q2.out
theorem kX {g : Nat} {o : Obj} {w W : World} (h : Aside0 (w.heap[g]? = some o)) (k : w.heap[g]? = some o → W.heap[g]? = some o := by intro h_; (with_reducible repeat (first | refine blk_drewN ?_ _ | refine blk_drew ?_ | refine blk_alloc ?_ _)); exact h_) : W.heap[g]? = some o := k h.out
theorem pX {P : Program} {ops : Array Oper} {Q : Exit → Act → World → Prop} {md : Region.Mode} {S : World → Prop} {ds : List Nat} {T : Bool × List (List Nat × List Nat)} (HT : Aside0 (rtab md ops = T)) (i : Nat) (N : Option Tmp) {oi : Oper} {v : Value} {fuel : Nat} {l : Array Bool} {a a' : Act} {w : World} (h : wpAnyLast P md ops Q S ds fuel (l.setIfInBounds i true) a' w) (hi : ops[i]? = some oi := by exact rfl) (hN : oi.dst = N := by exact rfl) (hT : anyT T l.toList (l.setIfInBounds i true).toList i = true := by kernel_rfl) (hQ : ∀ (c : List PanicEntry) (a : Act) (w : World), Q (.panic c) (a.put oi.dst v) w → Q (.panic c) a w := by exact fun _ _ _ h => h) (hy : Yields P ops oi v a := by (refine Or.inl ⟨by rfl, ?_⟩; intro w'; go_simp; with_reducible rfl)) (ha : a.put N v = a' := by (simp only [Act.put, List.setIfInBounds_toArray, List.set_cons_zero, List.set_cons_succ, i64_w, i32_w]; rfl)) : wpAnyLast P md ops Q S ds (fuel + 1) l a w := pure_ _ hi hN (any_of HT.out hT) hQ hy ha h
theorem uX {P : Program} {ops : Array Oper} {Q : Exit → Act → World → Prop} {md : Region.Mode} {S : World → Prop} {ds : List Nat} {T : Bool × List (List Nat × List Nat)} (HT : Aside0 (rtab md ops = T)) (i : Nat) (N : Option Tmp) {oi : Oper} {fuel : Nat} {l : Array Bool} {a a' : Act} {w : World} (h : wpAnyLast P md ops Q S ds fuel (l.setIfInBounds i true) a' w) (hi : ops[i]? = some oi := by exact rfl) (hN : oi.dst = N := by exact rfl) (hT : anyT T l.toList (l.setIfInBounds i true).toList i = true := by kernel_rfl) (hQ : ∀ (c : List PanicEntry) (a : Act) (w : World), Q (.panic c) (a.put oi.dst undef) w → Q (.panic c) a w := by exact fun _ _ _ h => h) (hy : Yields P ops oi undef a := by (refine Or.inr ⟨by rfl, rfl⟩)) (ha : a.put N undef = a' := by (simp only [Act.put, List.setIfInBounds_toArray, List.set_cons_zero, List.set_cons_succ, i64_w, i32_w]; rfl)) : wpAnyLast P md ops Q S ds (fuel + 1) l a w := pure_ _ hi hN (any_of HT.out hT) hQ hy ha h
theorem tX {P : Program} {ops : Array Oper} {Q : Exit → Act → World → Prop} {md : Region.Mode} {S : World → Prop} {ds : List Nat} {T : Bool × List (List Nat × List Nat)} {B : List Nat} (HT : Aside0 (rtab md ops = T)) (HW : Aside0 (waitsOk T.2 B = true)) {w : World} (hS : S w) (i : Nat) (N : Option Tmp) {oi : Oper} {v : Value} {fuel : Nat} {l : Array Bool} {a a' : Act} (h : wpAnyLast P md ops Q S ds fuel (l.setIfInBounds i true) a' w) (hi : ops[i]? = some oi := by exact rfl) (hN : oi.dst = N := by exact rfl) (hT : takeW T B ds l.toList (l.setIfInBounds i true).toList i = true := by kernel_rfl) (hQ : ∀ (c : List PanicEntry) (a : Act) (w : World), Q (.panic c) (a.put oi.dst v) w → Q (.panic c) a w := by exact fun _ _ _ h => h) (hy : YieldsIf P ops S oi v a := by (refine Or.inl ⟨by rfl, ?_⟩; intro w' hs_; (repeat (have s_ := And.left hs_; replace hs_ := And.right hs_)); go_simp; with_reducible rfl)) (ha : a.put N v = a' := by (simp only [Act.put, List.setIfInBounds_toArray, List.set_cons_zero, List.set_cons_succ, i64_w, i32_w]; rfl)) : wpAnyLast P md ops Q S ds (fuel + 1) l a w := take_ _ hi hN (take_ofW HT.out HW.out hT) hQ hy hS ha h
theorem oX {P : Program} {ops : Array Oper} {Q : Exit → Act → World → Prop} {md : Region.Mode} {S : World → Prop} {ds : List Nat} {T : Bool × List (List Nat × List Nat)} (HT : Aside0 (rtab md ops = T)) (i : Nat) (N : Option Tmp) {oi : Oper} {fuel : Nat} {l : Array Bool} {a : Act} {w : World} (h : ∀ (K : Act → World → Prop), Shut (∀ (a' : Act) (w' : World), S w' → (S w' → wpAnyLast P md ops Q S ds fuel (l.setIfInBounds i true) a' w') → K a' w') → if Region.wanted oi (yielded ops a.tmps) = true then Oper.wp P oi a w K Q else K (a.put N undef) w) (hi : ops[i]? = some oi := by exact rfl) (hN : oi.dst = N := by exact rfl) (hT : (readyT T.2 l.toList == [i] && l.toList.set i true == (l.setIfInBounds i true).toList) = true := by kernel_rfl) (hd : i ∉ ds := by decide) : wpAnyLast P md ops Q S ds (fuel + 1) l a w := one_ _ hi hN (one_of HT.out hT) hd h
theorem nX {P : Program} {ops : Array Oper} {Q : Exit → Act → World → Prop} {md : Region.Mode} {S : World → Prop} {ds : List Nat} (N : Option Tmp) {v : Value} {fuel : Nat} {l : Array Bool} {a a' : Act} {w : World} (h : wpAnyLast P md ops Q S ds fuel l a' w) (ha : a.put N v = a' := by (simp only [Act.put, List.setIfInBounds_toArray, List.set_cons_zero, List.set_cons_succ, i64_w, i32_w]; rfl)) : wpAnyLast P md ops Q S ds fuel l (a.put N v) w := norm_ ha h
theorem c2X {w : World} {g t : Nat} {x0 x1 : Value} (h : Aside0 (w.heap[g]? = some (.cells #[x0, x1] t (0, 0)))) : w.cell? ⟨g, 0, none⟩ = some x0 ∧ w.cell? ⟨g, 1, none⟩ = some x1 ∧ w.frozen? ⟨g, 0, none⟩ = false ∧ w.frozen? ⟨g, 1, none⟩ = false := ⟨(blk_cell h.out 0).trans rfl, (blk_cell h.out 1).trans rfl, blk_frozen h.out 0, blk_frozen h.out 1⟩
theorem c3X {w : World} {g t : Nat} {x0 x1 x2 : Value} (h : Aside0 (w.heap[g]? = some (.cells #[x0, x1, x2] t (0, 0)))) : w.cell? ⟨g, 0, none⟩ = some x0 ∧ w.cell? ⟨g, 1, none⟩ = some x1 ∧ w.cell? ⟨g, 2, none⟩ = some x2 ∧ w.frozen? ⟨g, 0, none⟩ = false ∧ w.frozen? ⟨g, 1, none⟩ = false ∧ w.frozen? ⟨g, 2, none⟩ = false := ⟨(blk_cell h.out 0).trans rfl, (blk_cell h.out 1).trans rfl, (blk_cell h.out 2).trans rfl, blk_frozen h.out 0, blk_frozen h.out 1, blk_frozen h.out 2⟩
theorem c4X {w : World} {g t : Nat} {x0 x1 x2 x3 : Value} (h : Aside0 (w.heap[g]? = some (.cells #[x0, x1, x2, x3] t (0, 0)))) : w.cell? ⟨g, 0, none⟩ = some x0 ∧ w.cell? ⟨g, 1, none⟩ = some x1 ∧ w.cell? ⟨g, 2, none⟩ = some x2 ∧ w.cell? ⟨g, 3, none⟩ = some x3 ∧ w.frozen? ⟨g, 0, none⟩ = false ∧ w.frozen? ⟨g, 1, none⟩ = false ∧ w.frozen? ⟨g, 2, none⟩ = false ∧ w.frozen? ⟨g, 3, none⟩ = false := ⟨(blk_cell h.out 0).trans rfl, (blk_cell h.out 1).trans rfl, (blk_cell h.out 2).trans rfl, (blk_cell h.out 3).trans rfl, blk_frozen h.out 0, blk_frozen h.out 1, blk_frozen h.out 2, blk_frozen h.out 3⟩
theorem c6X {w : World} {g t : Nat} {x0 x1 x2 x3 x4 x5 : Value} (h : Aside0 (w.heap[g]? = some (.cells #[x0, x1, x2, x3, x4, x5] t (0, 0)))) : w.cell? ⟨g, 0, none⟩ = some x0 ∧ w.cell? ⟨g, 1, none⟩ = some x1 ∧ w.cell? ⟨g, 2, none⟩ = some x2 ∧ w.cell? ⟨g, 3, none⟩ = some x3 ∧ w.cell? ⟨g, 4, none⟩ = some x4 ∧ w.cell? ⟨g, 5, none⟩ = some x5 ∧ w.frozen? ⟨g, 0, none⟩ = false ∧ w.frozen? ⟨g, 1, none⟩ = false ∧ w.frozen? ⟨g, 2, none⟩ = false ∧ w.frozen? ⟨g, 3, none⟩ = false ∧ w.frozen? ⟨g, 4, none⟩ = false ∧ w.frozen? ⟨g, 5, none⟩ = false := ⟨(blk_cell h.out 0).trans rfl, (blk_cell h.out 1).trans rfl, (blk_cell h.out 2).trans rfl, (blk_cell h.out 3).trans rfl, (blk_cell h.out 4).trans rfl, (blk_cell h.out 5).trans rfl, blk_frozen h.out 0, blk_frozen h.out 1, blk_frozen h.out 2, blk_frozen h.out 3, blk_frozen h.out 4, blk_frozen h.out 5⟩
theorem rX {α : Type} {d : Kd α} {e : Nat} {w W : World} {base : Nat} {ok : Nat → Prop} {v : Value} {xs : List α} (h : Aside0 (d.R e w base ok v xs)) (k : d.R e w base ok v xs → d.R e W base ok v xs := by intro h_; (with_reducible repeat (first | apply Kd.R_alloc | apply Kd.R_drewN | apply Kd.R_drew)); exact h_) : d.R e W base ok v xs := k h.out
theorem gX {P : Program} {ops : Array Oper} {Q : Exit → Act → World → Prop} {rest : List Oper} {oi : Oper} {a : Act} {w : World} (N : Option Tmp) {f : FuncId} {fn : Func} {os : Array Operand} {ts : Array TypeId} (hf : P.funcs[f]? = some fn) (args : Array Value) (h : Calls P f args w fun e w' => ∃ v, e = .returned v ∧ wpList P ops Q rest (a.put N v) w') (hd : oi.dst = N := by exact rfl) (hg : oi.guard = none := by exact rfl) (hname : (fn.name == "runtime.NumGoroutine") = false := by kernel_rfl) (hb : fn.body.isSome = true := by exact rfl) (hop : oi.op = .call { callee := .value (.func f), args := os, argTypes := ts } := by exact rfl) (hargs : os.map a.eval = args := by ((try simp only [List.map_toArray, List.map_cons, List.map_nil]); first | done | rfl | (simp only [List.length_drop, List.length_take]; rfl))) : wpList P ops Q (oi :: rest) a w := goesL_ N hd hg hf hname hb args hop hargs h
theorem hX {P : Program} {ops : Array Oper} {Q : Exit → Act → World → Prop} {oi : Oper} {N : Option Tmp} {a : Act} {w : World} {K : Act → World → Prop} {f : FuncId} {fn : Func} {os : Array Operand} {ts : Array TypeId} (hf : P.funcs[f]? = some fn) (args : Array Value) (h : Calls P f args w fun e w' => ∃ v, e = .returned v ∧ K (a.put N v) w') (hname : (fn.name == "runtime.NumGoroutine") = false := by kernel_rfl) (hb : fn.body.isSome = true := by exact rfl) (hw : Region.wanted oi (yielded ops a.tmps) = true := by rfl) (hN : oi.dst = N := by exact rfl) (hop : oi.op = .call { callee := .value (.func f), args := os, argTypes := ts } := by exact rfl) (hargs : os.map a.eval = args := by ((try simp only [List.map_toArray, List.map_cons, List.map_nil]); first | done | rfl | (simp only [List.length_drop, List.length_take]; rfl))) : if Region.wanted oi (yielded ops a.tmps) = true then Oper.wp P oi a w K Q else K (a.put N undef) w := goes_ hf hname hb args hw hN hop hargs h
theorem eX {P : Program} {ops : Array Oper} {o : Oper} {rest : List Oper} {Q : Exit → Act → World → Prop} {a : Act} {W : World} (N : Tmp) (cs : Array Value) (t : TypeId) (h : ∀ g, g = W.heap.size → ∀ w1, w1.heap[g]? = some (.cells cs t (0, 0)) → Below W.heap.size W w1 → wpList P ops Q rest (a.put o.dst (.pointer (some ⟨g, 0, none⟩))) w1) (hgd : o.guard = none := by exact rfl) (hd : o.dst = some N := by exact rfl) (hrun : (execOp a.eval o).run P W = .ok (.value (.pointer (some ⟨W.heap.size, 0, none⟩))) (W.alloc (.cells cs t (0, 0))) := by first | (go_simp; done) | (go_simp; rfl)) : wpList P ops Q (o :: rest) a W := box_event hgd hd hrun h
theorem vX {α : Sort _} {a b : α} (h : a = b := by first | rfl | (simp; done) | (simp [*]; done)) : a = b := h
theorem qX {p : Prop} [Decidable p] (h : decide p = true := by first | (with_reducible assumption) | assumption) : p := of_decide_eq_true h
theorem fX {g g' : Nat} {o : Obj} {w W : World} (h : Aside0 (w.heap[g]? = some o)) (n : Aside0 (g ≠ g')) (k : w.heap[g]? = some o → g ≠ g' → W.heap[g]? = some o := by intro h_ n_; (with_reducible repeat (first | refine blk_drewN ?_ _ | refine blk_drew ?_ | refine blk_alloc ?_ _ | refine blk_far ?_ n_ _)); exact h_) : W.heap[g]? = some o := k h.out n.out
attribute [local go_sem] max2_int min2_int max_two min_two max_three min_three max_four min_four   -- for this text's walks alone
set_option linter.unusedVariables false
set_option linter.unusedSimpArgs false
def errW : Option Int → Value
 | none => .nilIface
 | some c => .iface 0 (.int .i64 c)
theorem errW_none : errW none = .nilIface := rfl
theorem errW_some (c : Int) : errW (some c) = .iface 0 (.int .i64 c) := rfl
theorem info3 : (Tryz.prog.info? 3).map (fun i => (i.zero, i.size, i.bytes)) = some (some (.int .i64 0), 1, 8) := by kernel_rfl
theorem info24 : (Tryz.prog.info? 24).map (fun i => (i.zero, i.size, i.bytes)) = some (some (.agg #[(.int .i64 0), (.string ⟨#[]⟩)]), 2, 24) := by kernel_rfl
structure S24 where
 f0 : Int
 f1 : ByteArray
def k24 : Kd S24 := Kd.iso (Kd.pair (Kd.int .i64) Kd.string) (fun x : S24 => (x.f0, x.f1))
theorem k24_mkM (w : World) (base : Nat) (ok : Nat → Prop) (x : S24)  : k24.M w base ok x [.int .i64 x.f0, .string x.f1] := ⟨[.int .i64 x.f0], [.string x.f1], rfl, rfl, rfl⟩
structure S141 where
 f0 : Bool
 f1 : ByteArray
 f2 : ByteArray
 f3 : ByteArray
def z141 : S141 := ⟨false, (⟨#[]⟩ : ByteArray), (⟨#[]⟩ : ByteArray), (⟨#[]⟩ : ByteArray)⟩
def k141 : Kd S141 := Kd.iso (Kd.pair Kd.bool (Kd.pair Kd.string (Kd.pair Kd.string Kd.string))) (fun x : S141 => (x.f0, x.f1, x.f2, x.f3))
theorem k141_open {w : World} {x : S141} {cs : List Value} (h : k141.K w x cs) : cs = [.bool x.f0, .string x.f1, .string x.f2, .string x.f3] := by
 obtain ⟨_, _, rfl, rfl, ⟨_, _, rfl, rfl, ⟨_, _, rfl, rfl, rfl⟩⟩⟩ := h
 exact rfl
theorem k141_mkM (w : World) (base : Nat) (ok : Nat → Prop) (x : S141)  : k141.M w base ok x [.bool x.f0, .string x.f1, .string x.f2, .string x.f3] := ⟨[.bool x.f0], [.string x.f1, .string x.f2, .string x.f3], rfl, rfl, ⟨[.string x.f1], [.string x.f2, .string x.f3], rfl, rfl, ⟨[.string x.f2], [.string x.f3], rfl, rfl, rfl⟩⟩⟩
structure S143 where
 f0 : Int
 f1 : Int
 f2 : ByteArray
 f3 : S141
def z143 : S143 := ⟨(0 : Int), (0 : Int), (⟨#[]⟩ : ByteArray), z141⟩
def k143 : Kd S143 := Kd.iso (Kd.pair (Kd.int .i64) (Kd.pair (Kd.int .i64) (Kd.pair Kd.string k141))) (fun x : S143 => (x.f0, x.f1, x.f2, x.f3))
theorem k143_open {w : World} {x : S143} {cs : List Value} (h : k143.K w x cs) : cs = [.int .i64 x.f0, .int .i64 x.f1, .string x.f2, .bool x.f3.f0, .string x.f3.f1, .string x.f3.f2, .string x.f3.f3] := by
 obtain ⟨_, _, rfl, rfl, ⟨_, _, rfl, rfl, ⟨_, _, rfl, rfl, s3⟩⟩⟩ := h; obtain rfl := k141_open s3
 exact rfl
theorem k143_mkM (w : World) (base : Nat) (ok : Nat → Prop) (x : S143)  : k143.M w base ok x [.int .i64 x.f0, .int .i64 x.f1, .string x.f2, .bool x.f3.f0, .string x.f3.f1, .string x.f3.f2, .string x.f3.f3] := ⟨[.int .i64 x.f0], [.int .i64 x.f1, .string x.f2, .bool x.f3.f0, .string x.f3.f1, .string x.f3.f2, .string x.f3.f3], rfl, rfl, ⟨[.int .i64 x.f1], [.string x.f2, .bool x.f3.f0, .string x.f3.f1, .string x.f3.f2, .string x.f3.f3], rfl, rfl, ⟨[.string x.f2], [.bool x.f3.f0, .string x.f3.f1, .string x.f3.f2, .string x.f3.f3], rfl, rfl, (k141_mkM w base ok x.f3 )⟩⟩⟩
def rd_T143 (xs : List S143) (i : Int) : S143 := xs.getD i.toNat z143
theorem at_T143 {w : World} {A : Option Addr} {n : Nat} {xs : List S143} (h : Kd.C k143 w A n xs) (i : Int) (h0 : 0 ≤ i) (h1 : i < n) : ∃ ad , A = some ad ∧ w.cell? (ad.add (i.toNat * 7)) = some (.int .i64 (rd_T143 xs i).f0) ∧ w.cell? ⟨(ad.add (i.toNat * 7)).block, (ad.add (i.toNat * 7)).off + 1, none⟩ = some (.int .i64 (rd_T143 xs i).f1) ∧ w.cell? ⟨(ad.add (i.toNat * 7)).block, (ad.add (i.toNat * 7)).off + 2, none⟩ = some (.string (rd_T143 xs i).f2) ∧ w.cell? ⟨(ad.add (i.toNat * 7)).block, (ad.add (i.toNat * 7)).off + 3, none⟩ = some (.bool (rd_T143 xs i).f3.f0) ∧ w.cell? ⟨(ad.add (i.toNat * 7)).block, (ad.add (i.toNat * 7)).off + 4, none⟩ = some (.string (rd_T143 xs i).f3.f1) ∧ w.cell? ⟨(ad.add (i.toNat * 7)).block, (ad.add (i.toNat * 7)).off + 5, none⟩ = some (.string (rd_T143 xs i).f3.f2) ∧ w.cell? ⟨(ad.add (i.toNat * 7)).block, (ad.add (i.toNat * 7)).off + 6, none⟩ = some (.string (rd_T143 xs i).f3.f3) := by
 obtain ⟨ad, c, e, _, hK, hc0⟩ := Kd.C_get h z143 i h0 h1; have hc : ∀ j u, c[j]? = some u → w.cell? (ad.add (i.toNat * 7 + j)) = some u := hc0; obtain rfl := k143_open hK
 exact ⟨ad, e, hc 0 _ rfl, by rw [← add_field _ _ 1 (by omega)]; exact hc 1 _ rfl, by rw [← add_field _ _ 2 (by omega)]; exact hc 2 _ rfl, by rw [← add_field _ _ 3 (by omega)]; exact hc 3 _ rfl, by rw [← add_field _ _ 4 (by omega)]; exact hc 4 _ rfl, by rw [← add_field _ _ 5 (by omega)]; exact hc 5 _ rfl, by rw [← add_field _ _ 6 (by omega)]; exact hc 6 _ rfl⟩
structure S105 where
 f0 : ByteArray
 f1 : ByteArray
 f2 : Int
 f3 : Int
 f4 : Int
 f5 : (List S143)
def z105 : S105 := ⟨(⟨#[]⟩ : ByteArray), (⟨#[]⟩ : ByteArray), (0 : Int), (0 : Int), (0 : Int), ([] : List S143)⟩
def k105 : Kd S105 := Kd.iso (Kd.pair Kd.string (Kd.pair Kd.string (Kd.pair (Kd.int .i64) (Kd.pair (Kd.int .i64) (Kd.pair (Kd.int .i64) (Kd.slice 143 k143)))))) (fun x : S105 => (x.f0, x.f1, x.f2, x.f3, x.f4, x.f5))
theorem k105_open {w : World} {x : S105} {cs : List Value} (h : k105.K w x cs) : ∃ A5 c5, cs = [.string x.f0, .string x.f1, .int .i64 x.f2, .int .i64 x.f3, .int .i64 x.f4, .slice A5 x.f5.length c5] ∧ x.f5.length ≤ c5 ∧ k143.C w A5 x.f5.length x.f5 := by
 obtain ⟨_, _, rfl, rfl, ⟨_, _, rfl, rfl, ⟨_, _, rfl, rfl, ⟨_, _, rfl, rfl, ⟨_, _, rfl, rfl, ⟨A5, c5, rfl, l5, g5⟩⟩⟩⟩⟩⟩ := h
 exact ⟨A5, c5, rfl, l5, g5⟩
theorem k105_mkM (w : World) (base : Nat) (ok : Nat → Prop) (x : S105) {v5 : Value} (g5 : k143.R 143 w base ok v5 x.f5) : k105.M w base ok x [.string x.f0, .string x.f1, .int .i64 x.f2, .int .i64 x.f3, .int .i64 x.f4, v5] := ⟨[.string x.f0], [.string x.f1, .int .i64 x.f2, .int .i64 x.f3, .int .i64 x.f4, v5], rfl, rfl, ⟨[.string x.f1], [.int .i64 x.f2, .int .i64 x.f3, .int .i64 x.f4, v5], rfl, rfl, ⟨[.int .i64 x.f2], [.int .i64 x.f3, .int .i64 x.f4, v5], rfl, rfl, ⟨[.int .i64 x.f3], [.int .i64 x.f4, v5], rfl, rfl, ⟨[.int .i64 x.f4], [v5], rfl, rfl, ⟨v5, rfl, g5⟩⟩⟩⟩⟩⟩
def rd_T105 (xs : List S105) (i : Int) : S105 := xs.getD i.toNat z105
theorem at_T105 {w : World} {A : Option Addr} {n : Nat} {xs : List S105} (h : Kd.C k105 w A n xs) (i : Int) (h0 : 0 ≤ i) (h1 : i < n) : ∃ ad A5 c5, A = some ad ∧ w.cell? (ad.add (i.toNat * 6)) = some (.string (rd_T105 xs i).f0) ∧ w.cell? ⟨(ad.add (i.toNat * 6)).block, (ad.add (i.toNat * 6)).off + 1, none⟩ = some (.string (rd_T105 xs i).f1) ∧ w.cell? ⟨(ad.add (i.toNat * 6)).block, (ad.add (i.toNat * 6)).off + 2, none⟩ = some (.int .i64 (rd_T105 xs i).f2) ∧ w.cell? ⟨(ad.add (i.toNat * 6)).block, (ad.add (i.toNat * 6)).off + 3, none⟩ = some (.int .i64 (rd_T105 xs i).f3) ∧ w.cell? ⟨(ad.add (i.toNat * 6)).block, (ad.add (i.toNat * 6)).off + 4, none⟩ = some (.int .i64 (rd_T105 xs i).f4) ∧ w.cell? ⟨(ad.add (i.toNat * 6)).block, (ad.add (i.toNat * 6)).off + 5, none⟩ = some (.slice A5 (rd_T105 xs i).f5.length c5) ∧ (rd_T105 xs i).f5.length ≤ c5 ∧ k143.C w A5 (rd_T105 xs i).f5.length (rd_T105 xs i).f5 := by
 obtain ⟨ad, c, e, _, hK, hc0⟩ := Kd.C_get h z105 i h0 h1; have hc : ∀ j u, c[j]? = some u → w.cell? (ad.add (i.toNat * 6 + j)) = some u := hc0; obtain ⟨A5, c5, rfl, l5, g5⟩ := k105_open hK
 exact ⟨ad, A5, c5, e, hc 0 _ rfl, by rw [← add_field _ _ 1 (by omega)]; exact hc 1 _ rfl, by rw [← add_field _ _ 2 (by omega)]; exact hc 2 _ rfl, by rw [← add_field _ _ 3 (by omega)]; exact hc 3 _ rfl, by rw [← add_field _ _ 4 (by omega)]; exact hc 4 _ rfl, by rw [← add_field _ _ 5 (by omega)]; exact hc 5 _ rfl, l5, g5⟩
structure S85 where
 f0 : ByteArray
 f1 : ByteArray
 f2 : (List ByteArray)
 f3 : Int
 f4 : Int
 f5 : (List S105)
def z85 : S85 := ⟨(⟨#[]⟩ : ByteArray), (⟨#[]⟩ : ByteArray), ([] : List ByteArray), (0 : Int), (0 : Int), ([] : List S105)⟩
def k85 : Kd S85 := Kd.iso (Kd.pair Kd.string (Kd.pair Kd.string (Kd.pair (Kd.slice 9 Kd.string) (Kd.pair (Kd.int .i64) (Kd.pair (Kd.int .i64) (Kd.slice 105 k105)))))) (fun x : S85 => (x.f0, x.f1, x.f2, x.f3, x.f4, x.f5))
theorem k85_open {w : World} {x : S85} {cs : List Value} (h : k85.K w x cs) : ∃ A2 c2 A5 c5, cs = [.string x.f0, .string x.f1, .slice A2 x.f2.length c2, .int .i64 x.f3, .int .i64 x.f4, .slice A5 x.f5.length c5] ∧ x.f2.length ≤ c2 ∧ Kd.string.C w A2 x.f2.length x.f2 ∧ x.f5.length ≤ c5 ∧ k105.C w A5 x.f5.length x.f5 := by
 obtain ⟨_, _, rfl, rfl, ⟨_, _, rfl, rfl, ⟨_, _, rfl, ⟨A2, c2, rfl, l2, g2⟩, ⟨_, _, rfl, rfl, ⟨_, _, rfl, rfl, ⟨A5, c5, rfl, l5, g5⟩⟩⟩⟩⟩⟩ := h
 exact ⟨A2, c2, A5, c5, rfl, l2, g2, l5, g5⟩
theorem k85_mkM (w : World) (base : Nat) (ok : Nat → Prop) (x : S85) {v2 : Value} (g2 : Kd.string.R 9 w base ok v2 x.f2) {v5 : Value} (g5 : k105.R 105 w base ok v5 x.f5) : k85.M w base ok x [.string x.f0, .string x.f1, v2, .int .i64 x.f3, .int .i64 x.f4, v5] := ⟨[.string x.f0], [.string x.f1, v2, .int .i64 x.f3, .int .i64 x.f4, v5], rfl, rfl, ⟨[.string x.f1], [v2, .int .i64 x.f3, .int .i64 x.f4, v5], rfl, rfl, ⟨[v2], [.int .i64 x.f3, .int .i64 x.f4, v5], rfl, ⟨v2, rfl, g2⟩, ⟨[.int .i64 x.f3], [.int .i64 x.f4, v5], rfl, rfl, ⟨[.int .i64 x.f4], [v5], rfl, rfl, ⟨v5, rfl, g5⟩⟩⟩⟩⟩⟩
def rd_T85 (xs : List S85) (i : Int) : S85 := xs.getD i.toNat z85
theorem at_T85 {w : World} {A : Option Addr} {n : Nat} {xs : List S85} (h : Kd.C k85 w A n xs) (i : Int) (h0 : 0 ≤ i) (h1 : i < n) : ∃ ad A2 c2 A5 c5, A = some ad ∧ w.cell? (ad.add (i.toNat * 6)) = some (.string (rd_T85 xs i).f0) ∧ w.cell? ⟨(ad.add (i.toNat * 6)).block, (ad.add (i.toNat * 6)).off + 1, none⟩ = some (.string (rd_T85 xs i).f1) ∧ w.cell? ⟨(ad.add (i.toNat * 6)).block, (ad.add (i.toNat * 6)).off + 2, none⟩ = some (.slice A2 (rd_T85 xs i).f2.length c2) ∧ w.cell? ⟨(ad.add (i.toNat * 6)).block, (ad.add (i.toNat * 6)).off + 3, none⟩ = some (.int .i64 (rd_T85 xs i).f3) ∧ w.cell? ⟨(ad.add (i.toNat * 6)).block, (ad.add (i.toNat * 6)).off + 4, none⟩ = some (.int .i64 (rd_T85 xs i).f4) ∧ w.cell? ⟨(ad.add (i.toNat * 6)).block, (ad.add (i.toNat * 6)).off + 5, none⟩ = some (.slice A5 (rd_T85 xs i).f5.length c5) ∧ (rd_T85 xs i).f2.length ≤ c2 ∧ Kd.string.C w A2 (rd_T85 xs i).f2.length (rd_T85 xs i).f2 ∧ (rd_T85 xs i).f5.length ≤ c5 ∧ k105.C w A5 (rd_T85 xs i).f5.length (rd_T85 xs i).f5 := by
 obtain ⟨ad, c, e, _, hK, hc0⟩ := Kd.C_get h z85 i h0 h1; have hc : ∀ j u, c[j]? = some u → w.cell? (ad.add (i.toNat * 6 + j)) = some u := hc0; obtain ⟨A2, c2, A5, c5, rfl, l2, g2, l5, g5⟩ := k85_open hK
 exact ⟨ad, A2, c2, A5, c5, e, hc 0 _ rfl, by rw [← add_field _ _ 1 (by omega)]; exact hc 1 _ rfl, by rw [← add_field _ _ 2 (by omega)]; exact hc 2 _ rfl, by rw [← add_field _ _ 3 (by omega)]; exact hc 3 _ rfl, by rw [← add_field _ _ 4 (by omega)]; exact hc 4 _ rfl, by rw [← add_field _ _ 5 (by omega)]; exact hc 5 _ rfl, l2, g2, l5, g5⟩
end Go.Proofs.YtaipkdglhfhhiaaGreatDoor.Pt

namespace Go.Proofs.YtaipkdglhfhhiaaGreatDoor
open Go Go.RowKit
set_option linter.unusedVariables false
set_option linter.unusedSimpArgs false
theorem ret_int {k : IntKind} {a b : Int} (h : a = b) : Ending.returned (.int k a) = .returned (.int k b) := by rw [h]
theorem ret_bool {a b : Bool} (h : a = b) : Ending.returned (.bool a) = .returned (.bool b) := by rw [h]
theorem append1 {P : Program} {ops : Array Oper} {rest : List Oper} {o : Oper} {a : Act} {Q : Exit → Act → World → Prop} {W : World} (base : Nat) (hgd : o.guard = none) (s x : Operand) (t e : TypeId) (z : Value) (size bytes : Nat)
  (ho : o.op = .call { callee := .builtin .append, args := #[s, x], argTypes := #[t, t] })
  (ht : P.underlying t = some (.slice e)) (hinfo : (P.info? e).map (fun i => (i.zero, i.size, i.bytes)) = some (some z, size, bytes)) (hz : z.cells.size = size) (hsz : 0 < size)
  (v : Value) (n : Nat) (xs news : List Value) (hs : a.eval s = v) (b : Nat) (hb : b = W.heap.size) (hx : a.eval x = .slice (some ⟨b, 0, none⟩) 1 1) (hnl : news.length = size) (h1 : ∀ u ∈ news, u.oneCell' = true)
  (HO : W.ownsRow base e size v n xs) (hbase : base ≤ W.heap.size) (hl : (n + 1) * bytes ≤ 140737488355328) (hm : n + 1 ≤ 9223372036854775807)
  (h : ∀ v1 w1, w1.ownsRow base e size v1 (n + 1) (xs ++ news) → W.grownBy w1 v.ownBlock → wpList P ops Q rest (a.put o.dst v1) w1) :
  wpList P ops Q (o :: rest) a (W.alloc (.cells news.toArray e)) := by
 subst hb; obtain ⟨i0, hi, hzz⟩ := Option.map_eq_some_iff.1 hinfo; simp only [Prod.mk.injEq] at hzz; obtain ⟨hz0, hz1, hz2⟩ := hzz; refine wpList_append_own (W.alloc (.cells news.toArray e)) hgd s x t ho base e i0 z size bytes ht hi hz0 hz1 hz2 hz hsz v n xs hs (HO.alloc _) ⟨W.heap.size, 0, none⟩ 1 1 news hx (by omega) ?_ h1 (by simpa only [maxLen] using hm) hl (by simp; omega) ?_
 ·intro j u hu
  exact World.news_of_block (cs := news.toArray) (t := e) (fr := (0, 0)) (heap_alloc_new W _) j u (by simpa using hu)
 ·intro v1 w1 hown hg _
  exact h v1 w1 hown (World.grownBy.trans (World.grownBy_alloc W _ _) hg)
theorem own_base {w : World} {base : Nat} {e : TypeId} {size n : Nat} {v : Value} {xs : List Value} (h : w.ownsRow base e size v n xs) (k : Nat) (hk : v.ownBlock = some k) : base ≤ k := (h.lt k hk).1
theorem own_cell {w : World} {base g cap : Nat} {e : TypeId} {size n : Nat} {xs : List Value} (h : w.ownsRow base e size (.slice (some ⟨g, 0, none⟩) n cap) n xs) (j : Nat) (u : Value) (hu : xs[j]? = some u) : w.cell? ⟨g, j, none⟩ = some u := by
 have := h.cells (g := g) rfl j u hu; unfold Addr.add at this
 split at this <;> simp_all
theorem own_shape {w : World} {base : Nat} {e : TypeId} {size n : Nat} {v : Value} {xs : List Value} (h : w.ownsRow base e size v n xs) : ∃ A c, v = .slice A n c := by
 rcases h.2 with ⟨rfl, rfl⟩ | ⟨g, cap, cur, rfl, _⟩
 ·exact ⟨none, 0, rfl⟩
 ·exact ⟨_, cap, rfl⟩
theorem bl_cell {w w1 : World} (h : Below w.heap.size w w1) {a : Addr} {v : Value} (hc : w.cell? a = some v) : w1.cell? a = some v := (h.cell (World.block_lt_of_cell? w a hc)).trans hc
theorem cell_new (w : World) (cs : Array Value) (t : TypeId) (j : Nat) : (w.alloc (.cells cs t)).cell? ⟨w.heap.size, j, none⟩ = cs[j]? := by
 simp only [World.cell?, heap_alloc_new]
 rfl
end Go.Proofs.YtaipkdglhfhhiaaGreatDoor

namespace Go.Proofs.YtaipkdglhfhhiaaGreatDoor.Nm
open Go Go.RowKit
set_option linter.unusedVariables false
set_option linter.unusedSimpArgs false
def bt (s : ByteArray) (k : Nat) : Int := ((s.data.toList.getD k 0).toNat : Int)
theorem bt_at (s : ByteArray) (k : Nat) (h : k < s.size) : ((s[k]'h).toNat : Int) = bt s k := by
 have h' : k < s.data.toList.length := by rw [Array.length_toList]; exact h
 simp only [bt, List.getD_eq_getElem?_getD, List.getElem?_eq_getElem h', Option.getD_some]
 rfl
theorem bt_range (s : ByteArray) (k : Nat) : 0 ≤ bt s k ∧ bt s k ≤ 255 := by
 unfold bt; have := (s.data.toList.getD k 0).toNat_lt
 omega
def letB (n : Int) (first : Bool) : Bool :=
 decide (97 ≤ n ∧ n ≤ 122) || decide (65 ≤ n ∧ n ≤ 90) || n == 95 || n == 36 || (!first && decide (48 ≤ n ∧ n ≤ 57))
def lets (s : ByteArray) (k : Nat) : Bool := (List.range k).all fun j => letB (bt s j) ((j : Int) == 0)
theorem lets_succ (s : ByteArray) (k : Nat) : lets s (k + 1) = (lets s k && letB (bt s k) ((k : Int) == 0)) := by simp [lets, List.range_succ]
theorem lets_false (s : ByteArray) (k m : Nat) (hk : k < m) (h : letB (bt s k) ((k : Int) == 0) = false) : lets s m = false := by
 unfold lets; rw [List.all_eq_false]
 exact ⟨k, by simp [hk], by simp [h]⟩
def partB (s : ByteArray) : Bool := lets s s.size && !s.toList.isEmpty
def partsB (s : ByteArray) : List ByteArray := Lib.splitB ⟨#[47]⟩ 0 (Lib.countB s ⟨#[47]⟩) s
theorem partsB_len (s : ByteArray) : (partsB s).length = Lib.countB s ⟨#[47]⟩ + 1 := Lib.splitB_all ⟨#[47]⟩ (by decide) 0 _ s rfl
theorem partsB_le (s : ByteArray) : (partsB s).length ≤ s.size + 1 := by
 rw [partsB_len]; have := Lib.countB_le ⟨#[47]⟩ (by decide) s.size s (Nat.le_refl _)
 omega
def validB (s : ByteArray) : Bool := decide (s.size ≤ 60) && (partsB s).all partB
def memberB (s : ByteArray) : Bool := (s.toList == [60, 105, 110, 105, 116, 62]) || (decide (s.size ≤ 60) && partB s)
theorem badFrom_all (l : List ByteArray) (k : Nat) (h : ∀ j, j < k → ∀ x, l[j]? = some x → partB x = true) (hk : l.length ≤ k) : l.all partB = true := by
 rw [List.all_eq_true]; intro x hx; obtain ⟨j, hj, e⟩ := List.mem_iff_getElem.1 hx
 exact h j (by omega) x (by rw [List.getElem?_eq_getElem hj, e])
theorem bad_at (l : List ByteArray) (k : Nat) (x : ByteArray) (hx : l[k]? = some x) (h : partB x = false) : l.all partB = false := by
 rw [List.all_eq_false]
 exact ⟨x, List.mem_of_getElem? hx, by simp [h]⟩
end Go.Proofs.YtaipkdglhfhhiaaGreatDoor.Nm

namespace Go.Proofs.YtaipkdglhfhhiaaGreatDoor.Nm
open Go Go.RowKit
set_option linter.unusedVariables false
set_option linter.unusedSimpArgs false
def cutAt (c : UInt8) : List UInt8 → List (List UInt8)
 | [] => [[]]
 | b :: r => if b = c then [] :: cutAt c r else match cutAt c r with
  | [] => [[b]]
  | p :: ps => (b :: p) :: ps
theorem cutAt_ne (c : UInt8) (l : List UInt8) : cutAt c l ≠ [] := by
 cases l with
 | nil => simp [cutAt]
 | cons b r =>
  unfold cutAt
  split
  ·simp
  ·split <;> simp
theorem cutAt_snoc (c : UInt8) (l : List UInt8) (b : UInt8) (L : List (List UInt8)) (P : List UInt8) (h : cutAt c l = L ++ [P]) :
  cutAt c (l ++ [b]) = if b = c then L ++ [P] ++ [[]] else L ++ [P ++ [b]] := by
 induction l generalizing L P with
 | nil =>
  simp only [cutAt] at h
  have : L = [] ∧ P = [] := by
   cases L with
   | nil => simpa using h.symm
   | cons x L => simp at h
  obtain ⟨rfl, rfl⟩ := this
  by_cases hb : b = c <;> simp [cutAt, hb]
 | cons a r ih =>
  rw [List.cons_append]; unfold cutAt; unfold cutAt at h
  by_cases ha : a = c
  ·rw [if_pos ha] at h ⊢
   cases L with
   | nil => simp at h; exact absurd h.2 (cutAt_ne c r)
   | cons x L =>
    simp only [List.cons_append, List.cons.injEq] at h; obtain ⟨rfl, h⟩ := h; rw [ih L P h]
    split <;> simp
  ·rw [if_neg ha] at h ⊢
   cases hr : cutAt c r with
   | nil => exact absurd hr (cutAt_ne c r)
   | cons p ps =>
    rw [hr] at h; simp only at h
    cases L with
    | nil =>
     simp only [List.nil_append, List.cons.injEq] at h; obtain ⟨rfl, rfl⟩ := h; have := ih [] p (by simpa using hr); rw [this]
     by_cases hb : b = c <;> simp [hb]
    | cons x L =>
     simp only [List.cons_append, List.cons.injEq] at h; obtain ⟨rfl, rfl⟩ := h; have := ih (p :: L) P (by simpa using hr); rw [this]
     by_cases hb : b = c <;> simp [hb]
theorem splitK_miss (c : UInt8) (k : Nat) (s : List UInt8) (h : Lib.index s [c] = -1) : Lib.splitK [c] 0 k s = [s] := by
 cases k with
 | zero => rfl
 | succ k => rw [Lib.splitK, if_pos (by simp [h])]
theorem splitK_hit (c : UInt8) (k : Nat) (s : List UInt8) (i : Nat) (h : Lib.index s [c] = i) : Lib.splitK [c] 0 (k + 1) s = s.take i :: Lib.splitK [c] 0 k (s.drop (i + 1)) := by
 rw [Lib.splitK, if_neg (by simp [h]), h]; simp
theorem index_cons (c b : UInt8) (l : List UInt8) : Lib.index (b :: l) [c] = if b = c then 0 else if Lib.index l [c] = -1 then -1 else Lib.index l [c] + 1 := by
 rw [Lib.index]
 by_cases h : b = c
 ·subst h; simp [List.isPrefixOf]
 ·have : ¬ c = b := fun e => h e.symm
  simp [List.isPrefixOf, h, this]
theorem splitK_cut (c : UInt8) : ∀ s : List UInt8, Lib.splitK [c] 0 (Lib.count s [c]) s = cutAt c s := by
 intro s
 induction s with
 | nil =>
  rw [splitK_miss c _ [] (by simp [Lib.index])]
  rfl
 | cons b l ih =>
  unfold cutAt
  by_cases hb : b = c
  ·subst hb
   rw [if_pos rfl, Lib.count_cons_eq, Nat.add_comm, splitK_hit b _ _ 0 (by rw [index_cons, if_pos rfl]; rfl)]; simp [ih]
  ·rw [if_neg hb, Lib.count_cons_ne b c l hb, ← ih]
   by_cases hm : Lib.index l [c] = -1
   ·rw [splitK_miss c _ l hm, splitK_miss c _ (b :: l) (by rw [index_cons, if_neg hb, if_pos hm])]
   ·have hge := Lib.index_ge l [c]
    obtain ⟨i, hi⟩ : ∃ i : Nat, Lib.index l [c] = i := ⟨(Lib.index l [c]).toNat, by omega⟩
    have hpos : Lib.count l [c] ≠ 0 := by
     rw [Lib.count_one]
     have h1 : Lib.indexByte l c = (i : Int) := by rw [← Lib.index_one]; exact hi
     have h2 := (Lib.indexByte_some h1).1; have h3 : c ∈ l := List.mem_of_getElem? h2; have := List.count_pos_iff.2 h3
     omega
    obtain ⟨k, hk⟩ : ∃ k, Lib.count l [c] = k + 1 := ⟨Lib.count l [c] - 1, by omega⟩
    rw [hk, splitK_hit c k l i hi, splitK_hit c k (b :: l) (i + 1) (by rw [index_cons, if_neg hb, if_neg hm, hi]; simp)]; simp
theorem partsB_data (s : ByteArray) : (partsB s).map (·.data.toList) = cutAt 47 s.data.toList := by
 unfold partsB; rw [Lib.splitB_data, ← splitK_cut]
def rparts (s : ByteArray) : Nat → List ByteArray × Nat
 | 0 => ([], 0)
 | k + 1 => if bt s k = 47 then ((rparts s k).1 ++ [s.extract (rparts s k).2 k], k + 1) else rparts s k
theorem rparts_succ (s : ByteArray) (k : Nat) : rparts s (k + 1) = if bt s k = 47 then ((rparts s k).1 ++ [s.extract (rparts s k).2 k], k + 1) else rparts s k := rfl
theorem rparts_le (s : ByteArray) (k : Nat) : (rparts s k).2 ≤ k ∧ (rparts s k).1.length ≤ k := by
 induction k with
 | zero => simp [rparts]
 | succ k ih =>
  unfold rparts
  split
  ·simp; omega
  ·omega
theorem ex_data (s : ByteArray) (i j : Nat) : (s.extract i j).data.toList = (s.data.toList.take j).drop i := by
 rw [Lib.extract_data]; simp [List.drop_take]
theorem rparts_cut (s : ByteArray) (k : Nat) (hk : k ≤ s.size) :
  cutAt 47 (s.data.toList.take k) = (rparts s k).1.map (·.data.toList) ++ [(s.extract (rparts s k).2 k).data.toList] := by
 induction k with
 | zero => simp [rparts, cutAt]
 | succ k ih =>
  have ih := ih (by omega)
  have hlen : k < s.data.toList.length := by rw [Array.length_toList]; exact hk
  have hle := (rparts_le s k).1
  have hbt : bt s k = 47 ↔ s.data.toList[k] = 47 := by
   unfold bt; rw [List.getD_eq_getElem?_getD, List.getElem?_eq_getElem hlen, Option.getD_some]
   constructor
   ·intro h
    apply UInt8.toNat_inj.1
    have : (47 : UInt8).toNat = 47 := rfl
    omega
   ·intro h; rw [h]; rfl
  rw [List.take_succ_eq_append_getElem hlen, cutAt_snoc 47 _ _ _ _ ih]; rw [rparts_succ]
  by_cases h : bt s k = 47
  ·rw [if_pos h, if_pos (hbt.1 h), List.map_append, ex_data s (k + 1) (k + 1)]
   simp
  ·rw [if_neg h, if_neg (fun e => h (hbt.2 e)), ex_data, ex_data, List.take_succ_eq_append_getElem hlen, List.drop_append_of_le_length (by rw [List.length_take]; omega)]
theorem bytes_inj {a b : ByteArray} (h : a.data.toList = b.data.toList) : a = b := by
 apply ByteArray.ext
 exact Array.toList_inj.1 h
theorem map_inj : ∀ {l m : List ByteArray}, l.map (·.data.toList) = m.map (·.data.toList) → l = m
 | [], [], _ => rfl
 | [], _ :: _, h => by simp at h
 | _ :: _, [], h => by simp at h
 | a :: l, b :: m, h => by
  simp only [List.map_cons, List.cons.injEq] at h; rw [bytes_inj h.1, map_inj h.2]
theorem rparts_all (s : ByteArray) : (rparts s s.size).1 ++ [s.extract (rparts s s.size).2 s.size] = partsB s := by
 apply map_inj
 rw [partsB_data, List.map_append]; have := rparts_cut s s.size (Nat.le_refl _); rw [List.take_of_length_le (by rw [Array.length_toList]; exact Nat.le_refl _)] at this; rw [this]
 rfl
theorem cutAt_len (c : UInt8) (l p : List UInt8) (h : p ∈ cutAt c l) : p.length ≤ l.length := by
 induction l generalizing p with
 | nil => simp [cutAt] at h; simp [h]
 | cons b r ih =>
  unfold cutAt at h
  split at h
  ·rcases List.mem_cons.1 h with rfl | h
   ·simp
   ·have := ih p h; simp only [List.length_cons]; omega
  ·split at h
   ·rename_i e; exact absurd e (cutAt_ne c r)
   ·rename_i q qs e
    rcases List.mem_cons.1 h with rfl | h
    ·have := ih q (by rw [e]; simp); simp only [List.length_cons]; omega
    ·have := ih p (by rw [e]; simp [h]); simp only [List.length_cons]; omega
theorem partsB_size (s x : ByteArray) (hx : x ∈ partsB s) : x.size ≤ s.size := by
 have h : x.data.toList ∈ cutAt 47 s.data.toList := by rw [← partsB_data]; exact List.mem_map_of_mem hx
 have := cutAt_len _ _ _ h; rw [Array.length_toList, Array.length_toList] at this
 exact this
end Go.Proofs.YtaipkdglhfhhiaaGreatDoor.Nm

namespace Go.Proofs
open Go.Shelf
def Tryz.lays219_ren : Go.Shelf.Ren := ⟨fun | 219 => 181 | 217 => 184 | 225 => 185 | 224 => 186 | 267 => 187 | 266 => 189 | 314 => 190 | n => n, fun | 9 => 9 | 3 => 3 | 4 => 4 | 5 => 5 | 46 => 215 | 146 => 221 | 51 => 220 | n => n, fun | 1 => 0 | n => n⟩
theorem Tryz.lays219 : Go.Proofs.Lays.n219 Tryz.prog Tryz.lays219_ren := {
 mixed := by kernel_rfl
 f217 := Tryz.func184.trans (congrArg some (by kernel_rfl))
 f219 := Tryz.func181.trans (congrArg some (by kernel_rfl))
 f224 := Tryz.func186.trans (congrArg some (by kernel_rfl))
 f225 := Tryz.func185.trans (congrArg some (by kernel_rfl))
 f266 := Tryz.func189.trans (congrArg some (by kernel_rfl))
 f267 := Tryz.func187.trans (congrArg some (by kernel_rfl))
 f314 := Tryz.func190.trans (congrArg some (by kernel_rfl))
 t3 := Tryz.underlying3
 a3 := Tryz.isAgg3
 z3 := Tryz.sizeOf3
 v3 := Tryz.zeroValue3
 t4 := Tryz.underlying4
 a4 := Tryz.isAgg4
 z4 := Tryz.sizeOf4
 v4 := Tryz.zeroValue4
 t5 := Tryz.underlying5
 a5 := Tryz.isAgg5
 z5 := Tryz.sizeOf5
 v5 := Tryz.zeroValue5
 t9 := Tryz.underlying9
 a9 := Tryz.isAgg9
 z9 := Tryz.sizeOf9
 v9 := Tryz.zeroValue9
 t46 := Tryz.underlying215
 a46 := Tryz.isAgg215
 z46 := Tryz.sizeOf215
 v46 := Tryz.zeroValue215
 t51 := Tryz.underlying220
 a51 := Tryz.isAgg220
 z51 := Tryz.sizeOf220
 v51 := Tryz.zeroValue220
 t146 := Tryz.underlying221
 a146 := Tryz.isAgg221
 z146 := Tryz.sizeOf221
 v146 := Tryz.zeroValue221
 g1 := by kernel_rfl }
open Go.RowKit Go.Lib in
theorem Tryz.stringslite_Index_one (s : ByteArray) (c : UInt8) (w : World) :
 Calls Tryz.prog 181 #[.string s, .string ⟨#[c]⟩] w fun e w' => e = .returned (.int .i64 (Lib.indexByte s.data.toList c)) ∧ w' = w := Any.stringslite_Index_one Tryz.lays219 s c w
def Tryz.lays143_ren : Go.Shelf.Ren := ⟨fun | 143 => 173 | 219 => 181 | 217 => 184 | 225 => 185 | 224 => 186 | 267 => 187 | 266 => 189 | 314 => 190 | n => n, fun | 9 => 9 | 3 => 3 | 4 => 4 | 5 => 5 | 46 => 215 | 146 => 221 | 51 => 220 | n => n, fun | 1 => 0 | n => n⟩
theorem Tryz.lays143 : Go.Proofs.Lays.n143 Tryz.prog Tryz.lays143_ren := {
 mixed := by kernel_rfl
 f143 := Tryz.func173.trans (congrArg some (by kernel_rfl))
 f217 := Tryz.func184.trans (congrArg some (by kernel_rfl))
 f219 := Tryz.func181.trans (congrArg some (by kernel_rfl))
 f224 := Tryz.func186.trans (congrArg some (by kernel_rfl))
 f225 := Tryz.func185.trans (congrArg some (by kernel_rfl))
 f266 := Tryz.func189.trans (congrArg some (by kernel_rfl))
 f267 := Tryz.func187.trans (congrArg some (by kernel_rfl))
 f314 := Tryz.func190.trans (congrArg some (by kernel_rfl))
 t3 := Tryz.underlying3
 a3 := Tryz.isAgg3
 z3 := Tryz.sizeOf3
 v3 := Tryz.zeroValue3
 t4 := Tryz.underlying4
 a4 := Tryz.isAgg4
 z4 := Tryz.sizeOf4
 v4 := Tryz.zeroValue4
 t5 := Tryz.underlying5
 a5 := Tryz.isAgg5
 z5 := Tryz.sizeOf5
 v5 := Tryz.zeroValue5
 t9 := Tryz.underlying9
 a9 := Tryz.isAgg9
 z9 := Tryz.sizeOf9
 v9 := Tryz.zeroValue9
 t46 := Tryz.underlying215
 a46 := Tryz.isAgg215
 z46 := Tryz.sizeOf215
 v46 := Tryz.zeroValue215
 t51 := Tryz.underlying220
 a51 := Tryz.isAgg220
 z51 := Tryz.sizeOf220
 v51 := Tryz.zeroValue220
 t146 := Tryz.underlying221
 a146 := Tryz.isAgg221
 z146 := Tryz.sizeOf221
 v146 := Tryz.zeroValue221
 g1 := by kernel_rfl }
open Go.RowKit Go.Lib in
theorem Tryz.strings_Index_one (s : ByteArray) (c : UInt8) (w : World) :
 Calls Tryz.prog 173 #[.string s, .string ⟨#[c]⟩] w fun e w' => e = .returned (.int .i64 (Lib.indexByte s.data.toList c)) ∧ w' = w := Any.strings_Index_one Tryz.lays143 s c w
def Tryz.lays145_ren : Go.Shelf.Ren := ⟨fun | 145 => 163 | 220 => 174 | 219 => 181 | 217 => 184 | 225 => 185 | 224 => 186 | 267 => 187 | 266 => 189 | 314 => 190 | n => n, fun | 9 => 9 | 4 => 4 | 59 => 200 | 3 => 3 | 5 => 5 | 46 => 215 | 146 => 221 | 51 => 220 | n => n, fun | 1 => 0 | n => n⟩
theorem Tryz.lays145 : Go.Proofs.Lays.n145 Tryz.prog Tryz.lays145_ren := {
 mixed := by kernel_rfl
 f145 := Tryz.func163.trans (congrArg some (by kernel_rfl))
 f217 := Tryz.func184.trans (congrArg some (by kernel_rfl))
 f219 := Tryz.func181.trans (congrArg some (by kernel_rfl))
 f220 := Tryz.func174.trans (congrArg some (by kernel_rfl))
 f224 := Tryz.func186.trans (congrArg some (by kernel_rfl))
 f225 := Tryz.func185.trans (congrArg some (by kernel_rfl))
 f266 := Tryz.func189.trans (congrArg some (by kernel_rfl))
 f267 := Tryz.func187.trans (congrArg some (by kernel_rfl))
 f314 := Tryz.func190.trans (congrArg some (by kernel_rfl))
 t3 := Tryz.underlying3
 a3 := Tryz.isAgg3
 z3 := Tryz.sizeOf3
 v3 := Tryz.zeroValue3
 t4 := Tryz.underlying4
 a4 := Tryz.isAgg4
 z4 := Tryz.sizeOf4
 v4 := Tryz.zeroValue4
 t5 := Tryz.underlying5
 a5 := Tryz.isAgg5
 z5 := Tryz.sizeOf5
 v5 := Tryz.zeroValue5
 t9 := Tryz.underlying9
 a9 := Tryz.isAgg9
 z9 := Tryz.sizeOf9
 v9 := Tryz.zeroValue9
 t46 := Tryz.underlying215
 a46 := Tryz.isAgg215
 z46 := Tryz.sizeOf215
 v46 := Tryz.zeroValue215
 t51 := Tryz.underlying220
 a51 := Tryz.isAgg220
 z51 := Tryz.sizeOf220
 v51 := Tryz.zeroValue220
 t59 := Tryz.underlying200
 a59 := Tryz.isAgg200
 z59 := Tryz.sizeOf200
 v59 := Tryz.zeroValue200
 t146 := Tryz.underlying221
 a146 := Tryz.isAgg221
 z146 := Tryz.sizeOf221
 v146 := Tryz.zeroValue221
 g1 := by kernel_rfl }
def Tryz.lays138_ren : Go.Shelf.Ren := ⟨fun | 138 => 172 | 195 => 178 | 218 => 180 | 143 => 173 | 219 => 181 | 217 => 184 | 225 => 185 | 224 => 186 | 267 => 187 | 266 => 189 | 314 => 190 | n => n, fun | 9 => 9 | 3 => 3 | 4 => 4 | 5 => 5 | 0 => 0 | 46 => 215 | 146 => 221 | 51 => 220 | n => n, fun | 1 => 0 | n => n⟩
theorem Tryz.lays138 : Go.Proofs.Lays.n138 Tryz.prog Tryz.lays138_ren := {
 mixed := by kernel_rfl
 f138 := Tryz.func172.trans (congrArg some (by kernel_rfl))
 f143 := Tryz.func173.trans (congrArg some (by kernel_rfl))
 f195 := Tryz.func178.trans (congrArg some (by kernel_rfl))
 f217 := Tryz.func184.trans (congrArg some (by kernel_rfl))
 f218 := Tryz.func180.trans (congrArg some (by kernel_rfl))
 f219 := Tryz.func181.trans (congrArg some (by kernel_rfl))
 f224 := Tryz.func186.trans (congrArg some (by kernel_rfl))
 f225 := Tryz.func185.trans (congrArg some (by kernel_rfl))
 f266 := Tryz.func189.trans (congrArg some (by kernel_rfl))
 f267 := Tryz.func187.trans (congrArg some (by kernel_rfl))
 f314 := Tryz.func190.trans (congrArg some (by kernel_rfl))
 t0 := Tryz.underlying0
 a0 := Tryz.isAgg0
 z0 := Tryz.sizeOf0
 v0 := Tryz.zeroValue0
 t3 := Tryz.underlying3
 a3 := Tryz.isAgg3
 z3 := Tryz.sizeOf3
 v3 := Tryz.zeroValue3
 t4 := Tryz.underlying4
 a4 := Tryz.isAgg4
 z4 := Tryz.sizeOf4
 v4 := Tryz.zeroValue4
 t5 := Tryz.underlying5
 a5 := Tryz.isAgg5
 z5 := Tryz.sizeOf5
 v5 := Tryz.zeroValue5
 t9 := Tryz.underlying9
 a9 := Tryz.isAgg9
 z9 := Tryz.sizeOf9
 v9 := Tryz.zeroValue9
 t46 := Tryz.underlying215
 a46 := Tryz.isAgg215
 z46 := Tryz.sizeOf215
 v46 := Tryz.zeroValue215
 t51 := Tryz.underlying220
 a51 := Tryz.isAgg220
 z51 := Tryz.sizeOf220
 v51 := Tryz.zeroValue220
 t146 := Tryz.underlying221
 a146 := Tryz.isAgg221
 z146 := Tryz.sizeOf221
 v146 := Tryz.zeroValue221
 g1 := by kernel_rfl }
open Go.RowKit Go.Lib in
theorem Tryz.strings_Count_one (s : ByteArray) (c : UInt8) (w : World) :
 Calls Tryz.prog 172 #[.string s, .string ⟨#[c]⟩] w fun e w' => e = .returned (.int .i64 (Lib.countByte s.data.toList c)) ∧ w' = w := Any.strings_Count_one Tryz.lays138 s c w
def Tryz.lays149_ren : Go.Shelf.Ren := ⟨fun | 149 => 120 | 222 => 144 | n => n, fun | 9 => 9 | 5 => 5 | 3 => 3 | 4 => 4 | n => n, fun | n => n⟩
theorem Tryz.lays149 : Go.Proofs.Lays.n149 Tryz.prog Tryz.lays149_ren := {
 mixed := by kernel_rfl
 f149 := Tryz.func120.trans (congrArg some (by kernel_rfl))
 f222 := Tryz.func144.trans (congrArg some (by kernel_rfl))
 t3 := Tryz.underlying3
 a3 := Tryz.isAgg3
 z3 := Tryz.sizeOf3
 v3 := Tryz.zeroValue3
 t4 := Tryz.underlying4
 a4 := Tryz.isAgg4
 z4 := Tryz.sizeOf4
 v4 := Tryz.zeroValue4
 t5 := Tryz.underlying5
 a5 := Tryz.isAgg5
 z5 := Tryz.sizeOf5
 v5 := Tryz.zeroValue5
 t9 := Tryz.underlying9
 a9 := Tryz.isAgg9
 z9 := Tryz.sizeOf9
 v9 := Tryz.zeroValue9 }
open Go.RowKit Go.Lib in
theorem Tryz.strings_LastIndexByte (s : ByteArray) (c : Int) (hs : s.size < 4611686018427387904) (w : World) :
 Calls Tryz.prog 120 #[.string s, .int .u8 c] w fun e w' => e = .returned (.int .i64 (Lib.lastIndexByte s c)) ∧ w' = w := Any.strings_LastIndexByte Tryz.lays149 s c hs w
def Tryz.lays99_ren : Go.Shelf.Ren := ⟨fun | 99 => 182 | 206 => 188 | n => n, fun | 9 => 9 | 4 => 4 | 3 => 3 | n => n, fun | n => n⟩
theorem Tryz.lays99 : Go.Proofs.Lays.n99 Tryz.prog Tryz.lays99_ren := {
 mixed := by kernel_rfl
 f99 := Tryz.func182.trans (congrArg some (by kernel_rfl))
 f206 := Tryz.func188.trans (congrArg some (by kernel_rfl))
 t3 := Tryz.underlying3
 a3 := Tryz.isAgg3
 z3 := Tryz.sizeOf3
 v3 := Tryz.zeroValue3
 t4 := Tryz.underlying4
 a4 := Tryz.isAgg4
 z4 := Tryz.sizeOf4
 v4 := Tryz.zeroValue4
 t9 := Tryz.underlying9
 a9 := Tryz.isAgg9
 z9 := Tryz.sizeOf9
 v9 := Tryz.zeroValue9 }
open Go.RowKit Go.Lib in
theorem Tryz.strings_HasPrefix (s p : ByteArray) (w : World) :
 Calls Tryz.prog 182 #[.string s, .string p] w fun e w' => e = .returned (.bool (Lib.hasPrefix s.data.toList p.data.toList)) ∧ w' = w := Any.strings_HasPrefix Tryz.lays99 s p w
def Tryz.lays146_ren : Go.Shelf.Ren := ⟨fun | 146 => 146 | 221 => 162 | 268 => 171 | 138 => 172 | 143 => 173 | 195 => 178 | 197 => 179 | 218 => 180 | 219 => 181 | 260 => 183 | 217 => 184 | 225 => 185 | 224 => 186 | 267 => 187 | 266 => 189 | 314 => 190 | n => n, fun | 9 => 9 | 31 => 82 | 3 => 3 | 4 => 4 | 0 => 0 | 105 => 212 | 21 => 21 | 5 => 5 | 46 => 215 | 119 => 216 | 139 => 219 | 138 => 218 | 146 => 221 | 51 => 220 | n => n, fun | 1 => 0 | 3 => 1 | 4 => 2 | n => n⟩
theorem Tryz.lays146 : Go.Proofs.Lays.n146 Tryz.prog Tryz.lays146_ren := {
 mixed := by kernel_rfl
 f138 := Tryz.func172.trans (congrArg some (by kernel_rfl))
 f143 := Tryz.func173.trans (congrArg some (by kernel_rfl))
 f146 := Tryz.func146.trans (congrArg some (by kernel_rfl))
 f195 := Tryz.func178.trans (congrArg some (by kernel_rfl))
 f197 := Tryz.func179.trans (congrArg some (by kernel_rfl))
 f217 := Tryz.func184.trans (congrArg some (by kernel_rfl))
 f218 := Tryz.func180.trans (congrArg some (by kernel_rfl))
 f219 := Tryz.func181.trans (congrArg some (by kernel_rfl))
 f221 := Tryz.func162.trans (congrArg some (by kernel_rfl))
 f224 := Tryz.func186.trans (congrArg some (by kernel_rfl))
 f225 := Tryz.func185.trans (congrArg some (by kernel_rfl))
 f260 := Tryz.func183.trans (congrArg some (by kernel_rfl))
 f266 := Tryz.func189.trans (congrArg some (by kernel_rfl))
 f267 := Tryz.func187.trans (congrArg some (by kernel_rfl))
 f268 := Tryz.func171.trans (congrArg some (by kernel_rfl))
 f314 := Tryz.func190.trans (congrArg some (by kernel_rfl))
 t0 := Tryz.underlying0
 a0 := Tryz.isAgg0
 z0 := Tryz.sizeOf0
 v0 := Tryz.zeroValue0
 t3 := Tryz.underlying3
 a3 := Tryz.isAgg3
 z3 := Tryz.sizeOf3
 v3 := Tryz.zeroValue3
 t4 := Tryz.underlying4
 a4 := Tryz.isAgg4
 z4 := Tryz.sizeOf4
 v4 := Tryz.zeroValue4
 t5 := Tryz.underlying5
 a5 := Tryz.isAgg5
 z5 := Tryz.sizeOf5
 v5 := Tryz.zeroValue5
 t9 := Tryz.underlying9
 a9 := Tryz.isAgg9
 z9 := Tryz.sizeOf9
 v9 := Tryz.zeroValue9
 t21 := Tryz.underlying21
 a21 := Tryz.isAgg21
 z21 := Tryz.sizeOf21
 v21 := Tryz.zeroValue21
 t31 := Tryz.underlying82
 a31 := Tryz.isAgg82
 z31 := Tryz.sizeOf82
 v31 := Tryz.zeroValue82
 t46 := Tryz.underlying215
 a46 := Tryz.isAgg215
 z46 := Tryz.sizeOf215
 v46 := Tryz.zeroValue215
 t51 := Tryz.underlying220
 a51 := Tryz.isAgg220
 z51 := Tryz.sizeOf220
 v51 := Tryz.zeroValue220
 t105 := Tryz.underlying212
 a105 := Tryz.isAgg212
 z105 := Tryz.sizeOf212
 v105 := Tryz.zeroValue212
 t119 := Tryz.underlying216
 a119 := Tryz.isAgg216
 z119 := Tryz.sizeOf216
 t138 := Tryz.underlying218
 a138 := Tryz.isAgg218
 z138 := Tryz.sizeOf218
 v138 := Tryz.zeroValue218
 t139 := Tryz.underlying219
 a139 := Tryz.isAgg219
 z139 := Tryz.sizeOf219
 v139 := Tryz.zeroValue219
 t146 := Tryz.underlying221
 a146 := Tryz.isAgg221
 z146 := Tryz.sizeOf221
 v146 := Tryz.zeroValue221
 g1 := by kernel_rfl
 g3 := by kernel_rfl
 g4 := by kernel_rfl }
def Tryz.lays107_ren : Go.Shelf.Ren := ⟨fun | 107 => 101 | 108 => 121 | n => n, fun | 28 => 49 | 3 => 3 | 4 => 4 | 0 => 0 | n => n, fun | n => n⟩
theorem Tryz.lays107 : Go.Proofs.Lays.n107 Tryz.prog Tryz.lays107_ren := {
 mixed := by kernel_rfl
 f107 := Tryz.func101.trans (congrArg some (by kernel_rfl))
 f108 := Tryz.func121.trans (congrArg some (by kernel_rfl))
 t0 := Tryz.underlying0
 a0 := Tryz.isAgg0
 z0 := Tryz.sizeOf0
 v0 := Tryz.zeroValue0
 t3 := Tryz.underlying3
 a3 := Tryz.isAgg3
 z3 := Tryz.sizeOf3
 v3 := Tryz.zeroValue3
 t4 := Tryz.underlying4
 a4 := Tryz.isAgg4
 z4 := Tryz.sizeOf4
 v4 := Tryz.zeroValue4
 t28 := Tryz.underlying49
 a28 := Tryz.isAgg49
 z28 := Tryz.sizeOf49
 v28 := Tryz.zeroValue49 }
open Go.Lib in
theorem Tryz.slices_Contains_int (b off n c : Nat) (zs : List Int) (x : Int) (w : World) (hz : n ≤ zs.length) (hbig : n ≤ 9223372036854775807) (hc : ∀ j, j < zs.length → w.cell? ⟨b, off + j, none⟩ = some (.int .i64 (zs.getD j 0))) :
 Calls Tryz.prog 101 #[.slice (some ⟨b, off, none⟩) n c, .int .i64 x] w fun e w' => e = .returned (.bool ((zs.take n).contains x)) ∧ w' = w := Any.slices_Contains_int Tryz.lays107 b off n c zs x w hz hbig hc
open Go.Lib in
theorem Tryz.slices_Contains_int_empty (a : Option Addr) (c : Nat) (x : Int) (w : World) :
 Calls Tryz.prog 101 #[.slice a 0 c, .int .i64 x] w fun e w' => e = .returned (.bool false) ∧ w' = w := Any.slices_Contains_int_empty Tryz.lays107 a c x w
end Go.Proofs

namespace Go.Proofs.YtaipkdglhfhhiaaGreatDoor.Lib1
open Go Go.Shelf Go.RowKit Go.Lib
set_option linter.unusedVariables false
set_option linter.unusedSimpArgs false
section
variable {P : Program} {ρ : Ren}
theorem index1 (L : Lays.n143 P ρ) (s : ByteArray) (c : UInt8) (w : World) :
  Calls P (ρ.f 143) #[.string s, .string ⟨#[c]⟩] w fun e w' => e = .returned (.int .i64 (Lib.indexB s ⟨#[c]⟩)) ∧ w' = w := by
 refine (Any.strings_Index_one L s c w).mono fun e w' ⟨he, hw⟩ => ⟨?_, hw⟩
 rw [he]
 show _ = Ending.returned (Value.int .i64 (Lib.index s.data.toList [c]))
 rw [Lib.index_one]
theorem genSplit1 (L : Lays.n221 P ρ) (hi9 : (P.info? (ρ.t 9)).map (fun i => (i.zero, i.size, i.bytes)) = some (some (.string ByteArray.empty), 1, 16)) (s : ByteArray) (c : UInt8) (n : Int) (N : Nat) (w : World)
  (hs : s.size < 4294967281) (hn0 : n ≠ 0) (hn63 : n ≤ 9223372036854775807) (hN : (N : Int) = min (if n < 0 then (Lib.countB s ⟨#[c]⟩ : Int) + 1 else n) ((s.size : Int) + 1)) :
  Calls P (ρ.f 221) #[.string s, .string ⟨#[c]⟩, .int .i64 ((0 : Nat) : Int), .int .i64 n] w fun e w' =>
   e = .returned (.slice (some ⟨w.heap.size, 0, none⟩) (Lib.splitB ⟨#[c]⟩ 0 (N - 1) s).length N) ∧ w' = w.alloc (.cells (Lib.cellsOf (Lib.splitB ⟨#[c]⟩ 0 (N - 1) s) N) (ρ.t 9)) :=
 Any.strings_genSplit_core L hi9 s ⟨#[c]⟩ 0 n N w hs (Nat.le_refl _) (Nat.zero_le _)
  (fun x cs hx => index1 { L with } x c _)
  ((Any.strings_Count_one { L with } s c w).mono fun e w' ⟨he, hw⟩ => ⟨by rw [he]; show _ = Ending.returned (Value.int .i64 ((Lib.count s.data.toList [c] : Nat) : Int)); rw [Lib.count_one]; rfl, hw⟩) hn0 hn63 hN
set_option maxHeartbeats 1000000 in
theorem split1 (L : Lays.n146 P ρ) (hi9 : (P.info? (ρ.t 9)).map (fun i => (i.zero, i.size, i.bytes)) = some (some (.string ByteArray.empty), 1, 16)) (s : ByteArray) (c : UInt8) (w : World) (hs : s.size < 4294967281) :
  Calls P (ρ.f 146) #[.string s, .string ⟨#[c]⟩] w fun e w' =>
   e = .returned (.slice (some ⟨w.heap.size, 0, none⟩) (Lib.countB s ⟨#[c]⟩ + 1) (Lib.countB s ⟨#[c]⟩ + 1)) ∧ w' = w.alloc (.cells ((Lib.splitB ⟨#[c]⟩ 0 (Lib.countB s ⟨#[c]⟩) s).map Value.string).toArray (ρ.t 9)) := by
 have h1 : 1 ≤ (⟨#[c]⟩ : ByteArray).size := Nat.le_refl _; have hle := Lib.countB_le ⟨#[c]⟩ h1 s.size s (Nat.le_refl _); have hlen := Lib.splitB_all ⟨#[c]⟩ h1 0 _ s rfl; have G := genSplit1 { L with } hi9 s c (-1) (Lib.countB s ⟨#[c]⟩ + 1) w hs (by decide) (by decide) (by rw [if_pos (by decide)]; omega); rw [Nat.add_sub_cancel, hlen] at G
 have e2 : Lib.cellsOf (Lib.splitB ⟨#[c]⟩ 0 (Lib.countB s ⟨#[c]⟩) s) (Lib.countB s ⟨#[c]⟩ + 1) = ((Lib.splitB ⟨#[c]⟩ 0 (Lib.countB s ⟨#[c]⟩) s).map Value.string).toArray := by rw [← hlen]; exact Lib.cellsOf_full _
 rw [e2] at G; clear e2 hle hlen; have t3 := L.t3; have t9 := L.t9; have t31 := L.t31; have a3 := L.a3; have a9 := L.a9; have a31 := L.a31; have z3 := L.z3; have v3 := L.v3; have z9 := L.z9; have v9 := L.v9; have z31 := L.z31; have v31 := L.v31; have e221 : ∀ args w, (callFunc (ρ.f 221) args).run P w = .ok (.enter (ρ.f 221) args) w := enters_of L.f221 (by kernel_rfl) rfl; go_enter L.f146, Body.n146_ntmps ρ; go_wp2_with (go_at_fn (ρ.f 221); refine G.mono ?_; rintro e w' ⟨rfl, hw⟩; rw [hw]); go_ret
 exact ⟨rfl, rfl⟩
set_option maxHeartbeats 2000000 in
set_option maxRecDepth 100000 in
theorem slcut1 (L : Lays.n220 P ρ) (s : ByteArray) (c : UInt8) (w : World) (hs : s.size < 4294967281) :
  Calls P (ρ.f 220) #[.string s, .string ⟨#[c]⟩] w fun e w' => e = .returned (.tuple #[.string ⟨(Lib.cut s.data.toList [c]).1.toArray⟩, .string ⟨(Lib.cut s.data.toList [c]).2.1.toArray⟩, .bool (Lib.cut s.data.toList [c]).2.2]) ∧ ∃ n, w' = w.drewN n := by
 have hsep : (⟨#[c]⟩ : ByteArray).data.toList = [c] := rfl; have hsz : (⟨#[c]⟩ : ByteArray).size = 1 := rfl; have I1 := fun (w : World) => Any.stringslite_Index_one { L with } s c w; rw [← Lib.index_one] at I1
 rcases Lib.indexB_cases s ⟨#[c]⟩ with hix | ⟨i, hix, hroom⟩
 ·obtain ⟨e1, e2, e3⟩ := Lib.cutB_miss s ⟨#[c]⟩ hix
  rw [hsep] at e1 e2 e3; rw [e1, e2, e3]; rw [show Lib.index s.data.toList [c] = _ from hix] at I1; have t3 := L.t3; have t4 := L.t4; have t9 := L.t9; have a3 : ∀ w, (isAgg (ρ.t 3)).run P w = .ok false w := run_isAgg_plain L.t3 rfl; have a4 : ∀ w, (isAgg (ρ.t 4)).run P w = .ok false w := run_isAgg_plain L.t4 rfl; have a9 : ∀ w, (isAgg (ρ.t 9)).run P w = .ok false w := run_isAgg_plain L.t9 rfl; have e219 : ∀ args w, (callFunc (ρ.f 219) args).run P w = .ok (.enter (ρ.f 219) args) w := enters_of L.f219 (by kernel_rfl) rfl; have mixed := L.mixed; have z3 := L.z3; have v3 := L.v3; have z4 := L.z4; have v4 := L.v4; have z9 := L.z9; have v9 := L.v9; clear e1 e2 e3 hsep hix; go_enter L.f220, Body.n220_ntmps ρ; go_wp2_with (go_at_fn (ρ.f 219); refine (I1 _).mono ?_; rintro e w' ⟨rfl, rfl⟩)
  go_ret3
  exact ⟨rfl, 0, rfl⟩
 ·obtain ⟨e1, e2, e3⟩ := Lib.cutB_hit s ⟨#[c]⟩ i hix
  rw [hsep] at e1 e2 e3; rw [hsz] at hroom; rw [hsz] at e2; rw [e1, e2, e3]; rw [show Lib.index s.data.toList [c] = _ from hix] at I1
  have c1 : (0 : Int) ≤ ↑i := by omega
  have c2 : (↑i : Int) ≤ ↑s.size := by omega
  have c3 : (0 : Int) ≤ ↑i + 1 := by omega
  have c4 : (↑i + 1 : Int) ≤ ↑s.size := by omega
  have t3 := L.t3; have t4 := L.t4; have t9 := L.t9; have a3 : ∀ w, (isAgg (ρ.t 3)).run P w = .ok false w := run_isAgg_plain L.t3 rfl; have a4 : ∀ w, (isAgg (ρ.t 4)).run P w = .ok false w := run_isAgg_plain L.t4 rfl; have a9 : ∀ w, (isAgg (ρ.t 9)).run P w = .ok false w := run_isAgg_plain L.t9 rfl; have e219 : ∀ args w, (callFunc (ρ.f 219) args).run P w = .ok (.enter (ρ.f 219) args) w := enters_of L.f219 (by kernel_rfl) rfl; have mixed := L.mixed; have z3 := L.z3; have v3 := L.v3; have z4 := L.z4; have v4 := L.v4; have z9 := L.z9; have v9 := L.v9; clear e1 e2 e3 hsep hix; go_enter L.f220, Body.n220_ntmps ρ; go_wp2_with (go_at_fn (ρ.f 219); refine (I1 _).mono ?_; rintro e w' ⟨rfl, rfl⟩)
  go_region_o
  go_wp2
  go_ret3
  exact ⟨rfl, 1, rfl⟩
set_option maxHeartbeats 1000000 in
theorem cut1 (L : Lays.n145 P ρ) (s : ByteArray) (c : UInt8) (w : World) (hs : s.size < 4294967281) :
  Calls P (ρ.f 145) #[.string s, .string ⟨#[c]⟩] w fun e w' => e = .returned (.tuple #[.string ⟨(Lib.cut s.data.toList [c]).1.toArray⟩, .string ⟨(Lib.cut s.data.toList [c]).2.1.toArray⟩, .bool (Lib.cut s.data.toList [c]).2.2]) ∧ ∃ n, w' = w.drewN n := by
 have t4 := L.t4; have t9 := L.t9; have t59 := L.t59; have a4 : ∀ w, (isAgg (ρ.t 4)).run P w = .ok false w := run_isAgg_plain L.t4 rfl; have a9 : ∀ w, (isAgg (ρ.t 9)).run P w = .ok false w := run_isAgg_plain L.t9 rfl; have a59 : ∀ w, (isAgg (ρ.t 59)).run P w = .ok false w := run_isAgg_plain L.t59 rfl; have e220 : ∀ args w, (callFunc (ρ.f 220) args).run P w = .ok (.enter (ρ.f 220) args) w := enters_of L.f220 (by kernel_rfl) rfl; have mixed := L.mixed; have z4 := L.z4; have v4 := L.v4; have z9 := L.z9; have v9 := L.v9; have z59 := L.z59; have v59 := L.v59; go_enter L.f145, Body.n145_ntmps ρ; go_wp2_with (go_at_fn (ρ.f 220); refine (slcut1 { L with } _ _ _ hs).mono ?_; rintro e w' ⟨rfl, n, rfl⟩)
 go_ret3
 exact ⟨rfl, n, rfl⟩
end
end Go.Proofs.YtaipkdglhfhhiaaGreatDoor.Lib1

namespace Go.Proofs.YtaipkdglhfhhiaaGreatDoor.Nm
open Go Go.RowKit
set_option linter.unusedVariables false
set_option linter.unusedSimpArgs false
set_option maxHeartbeats 400000
theorem letter_any (n : Int) (first : Bool) (h0 : 0 ≤ n) (h1 : n ≤ 255) (w : World) : Calls Tryz.prog 147 #[.int .u8 n, .bool first] w fun e w' => e = .returned (.bool (letB n first)) ∧ w' = w := by
 go_enter Tryz.func147, Tryz.ntmps147; go_wp2
 all_goals
  go_ret; refine ⟨ret_bool ?_, rfl⟩
  simp_all [letB]
 all_goals omega
theorem part_any (s : ByteArray) (hs : s.size ≤ 4611686018427387904) (w : World) : Calls Tryz.prog 125 #[.string s] w fun e w' => e = .returned (.bool (partB s)) ∧ w' = w := by
 go_enter Tryz.func125, Tryz.ntmps125; go_wp2
 go_loop [6] (fun i => ∃ k : Nat, k ≤ s.size ∧ i = .int .i64 k ∧ lets s k = true) (fun i => s.size - (intOf i).toNat)
 case atStart => exact ⟨0, Nat.zero_le _, rfl, rfl⟩
 case round =>
  obtain ⟨k, hk, rfl, hl⟩ := hrel; replace hl := Lib.hid hl
  by_cases hlt : k < s.size
  ·have hb := bt_at s k hlt
   have hr := bt_range s k; have hsn := lets_succ s k; generalize hbk : bt s k = n at *; replace hbk := Lib.hid hbk; replace hsn := Lib.hid hsn; go_wp2_with (go_at_call 147; refine (letter_any _ _ (by omega) (by omega) _).mono ?_; rintro e w1 ⟨rfl, rfl⟩)
   ·have hL : letB n ((k : Int) == 0) = false := by simp_all
    go_ret
    exact ⟨ret_bool (by rw [partB, lets_false s k s.size hlt (by rw [hbk.out]; exact hL)]; rfl), rfl⟩
   ·have hL : letB n ((k : Int) == 0) = true := by simp_all
    go_round
    case rel => exact ⟨k + 1, by omega, by go_num, by rw [hsn.out, hl.out, hL]; rfl⟩
    case measure => simp [intOf]; omega
  ·obtain rfl : k = s.size := by omega
   go_wp2; go_ret
   exact ⟨ret_bool (by rw [partB, hl.out]; rfl), rfl⟩
def ML (_ : World) : Prop := True
theorem ML.below {w w1 : World} (_ : ML w) (_ : Below w.heap.size w w1) : ML w1 := trivial
def strC (l : List ByteArray) : Array Value := (l.map Value.string).toArray
theorem parts_any (s : ByteArray) (hs : s.size < 4294967281) (w : World) (hm : ML w) : Calls Tryz.prog 123 #[.string s] w fun e w' =>
  e = .returned (.slice (some ⟨w.heap.size, 0, none⟩) (partsB s).length (partsB s).length) ∧ w' = w.alloc (.cells (strC (partsB s)) 9) := by
 have S := Lib1.split1 Tryz.lays146 (by kernel_rfl) s 47 w hs; rw [← partsB_len] at S; replace S := Lib.hid S; clear hm; go_enter Tryz.func123, Tryz.ntmps123; go_wp2_with (go_at_call 146; refine S.out.mono ?_; rintro e w1 ⟨rfl, rfl⟩); go_ret
 exact ⟨rfl, rfl⟩
theorem member_any (s : ByteArray) (w : World) : Calls Tryz.prog 129 #[.string s] w fun e w' => e = .returned (.bool (memberB s)) ∧ w' = w := by
 by_cases h60 : s.size ≤ 60
 ·have P := Lib.hid (part_any s (by omega) w)
  go_enter Tryz.func129, Tryz.ntmps129; go_wp2_with (go_at_call 125; refine P.out.mono ?_; rintro e w1 ⟨rfl, rfl⟩)
  all_goals
   go_ret; refine ⟨ret_bool ?_, rfl⟩
   simp_all [memberB]
 ·have h60' : decide (s.size ≤ 60) = false := by simpa using h60
  go_enter Tryz.func129, Tryz.ntmps129; go_wp2_with fail
  all_goals
   go_ret; refine ⟨ret_bool ?_, rfl⟩; rw [memberB, h60']
   simp_all
theorem valid1_any (s : ByteArray) (hs : s.size ≤ 4611686018427387904) (w : World) : Calls Tryz.prog 124 #[.string s] w fun e w' => e = .returned (.bool (!partB s)) ∧ w' = w := by
 have P := Lib.hid (part_any s hs w); go_enter Tryz.func124, Tryz.ntmps124; go_wp2_with (go_at_call 125; refine P.out.mono ?_; rintro e w1 ⟨rfl, rfl⟩); go_ret
 exact ⟨rfl, rfl⟩
def RdS (w : World) (b o : Nat) (l : List ByteArray) : Prop := ∀ j x, l[j]? = some x → w.cell? ⟨b, o + j, none⟩ = some (.string x)
theorem RdS.below {w w1 : World} {b o : Nat} {l : List ByteArray} (h : RdS w b o l) (hb : Below w.heap.size w w1) : RdS w1 b o l := fun j x hx => bl_cell hb (h j x hx)
theorem RdS.new (w : World) (l : List ByteArray) (t : TypeId) : RdS (w.alloc (.cells (strC l) t)) w.heap.size 0 l := by
 intro j x hx; rw [Nat.zero_add, cell_new]; simp [strC, hx]
theorem indexFunc_any (l : List ByteArray) (hl : l.length ≤ 4611686018427387904) (hs : ∀ x ∈ l, x.size ≤ 4611686018427387904) (b o c : Nat) (w : World) (hr : RdS w b o l) :
  Calls Tryz.prog 145 #[.slice (some ⟨b, o, none⟩) l.length c, .func (.func 124) #[] #[]] w fun e w' => (∃ n : Int, e = .returned (.int .i64 n) ∧ decide (0 ≤ n) = !l.all partB) ∧ w' = w := by
 go_enter Tryz.func145, Tryz.ntmps145; go_wp2
 go_loop [8] (fun i => ∃ k : Nat, k ≤ l.length ∧ i = .int .i64 k ∧ Hid (∀ j, j < k → ∀ x, l[j]? = some x → partB x = true)) (fun i => l.length - (intOf i).toNat)
 case atStart => exact ⟨0, Nat.zero_le _, rfl, fun j hj => absurd hj (by omega)⟩
 case round =>
  obtain ⟨k, hk, rfl, hp⟩ := hrel; replace hr := Lib.hid hr; replace hs := Lib.hid hs
  by_cases hlt : k < l.length
  ·obtain ⟨x, hx⟩ : ∃ x, l[k]? = some x := ⟨_, List.getElem?_eq_getElem hlt⟩
   have hcell := hr.out k x hx; have V := Lib.hid (valid1_any x (hs.out x (List.mem_of_getElem? hx)) w); replace hx := Lib.hid hx; go_wp2_with (go_at_call 124; refine V.out.mono ?_; rintro e w1 ⟨rfl, rfl⟩)
   ·have hf : partB x = false := by simp_all
    go_ret
    exact ⟨⟨k, rfl, by rw [bad_at l k x hx.out hf]; simp⟩, rfl⟩
   ·have hf : partB x = true := by simp_all
    go_round
    case rel => exact ⟨k + 1, by omega, by go_num, fun j hj y hy => by
     by_cases e : j = k
     ·subst e
      rw [hx.out] at hy
      cases hy
      exact hf
     ·exact hp.out j (by omega) y hy⟩
    case measure => simp [intOf]; omega
  ·go_wp2
   go_ret
   exact ⟨⟨-1, rfl, by rw [badFrom_all l k hp.out (by omega)]; rfl⟩, rfl⟩
theorem containsFunc_any (l : List ByteArray) (hl : l.length ≤ 4611686018427387904) (hs : ∀ x ∈ l, x.size ≤ 4611686018427387904) (b o c : Nat) (w : World) (hr : RdS w b o l) :
  Calls Tryz.prog 122 #[.slice (some ⟨b, o, none⟩) l.length c, .func (.func 124) #[] #[]] w fun e w' => e = .returned (.bool (!l.all partB)) ∧ w' = w := by
 have I := Lib.hid (indexFunc_any l hl hs b o c w hr); clear hs hr; go_enter Tryz.func122, Tryz.ntmps122; go_wp2_with (go_at_call 145; refine I.out.mono ?_; rintro e w1 ⟨⟨n, rfl, hn⟩, rfl⟩; replace hn := Lib.hid hn); go_ret
 exact ⟨ret_bool hn.out, rfl⟩
theorem valid_any (s : ByteArray) (w : World) (hm : ML w) : Calls Tryz.prog 107 #[.string s] w fun e w' => e = .returned (.bool (validB s)) ∧ Below w.heap.size w w' := by
 by_cases h60 : s.size ≤ 60
 ·have P := Lib.hid (parts_any s (by omega) w hm)
  have hle := partsB_le s; have C := Lib.hid (containsFunc_any (partsB s) (by omega) (fun x hx => by have := partsB_size s x hx; omega) w.heap.size 0 (partsB s).length _ (RdS.new w (partsB s) 9)); clear hm; go_enter Tryz.func107, Tryz.ntmps107
  go_wp2_with (first
   | (go_at_call 123; refine P.out.mono ?_; rintro e w1 ⟨rfl, rfl⟩)
   | (go_at_call 122; refine C.out.mono ?_; rintro e w1 ⟨rfl, rfl⟩))
  go_ret
  exact ⟨ret_bool (by simp [validB, h60]), (Below.refl _ _).alloc (Nat.le_refl _) _⟩
 ·have h60' : decide (s.size ≤ 60) = false := by simpa using h60
  clear hm; go_enter Tryz.func107, Tryz.ntmps107; go_wp2_with fail; go_ret
  exact ⟨ret_bool (by rw [validB, h60']; rfl), Below.refl _ _⟩
def slash (s : ByteArray) : Int := Lib.lastIndexByte s 47
theorem slash_bd (s : ByteArray) : -1 ≤ slash s ∧ slash s < s.size := by
 rcases Lib.lastIndexByte_spec s 47 with ⟨h, _⟩ | ⟨i, hi, h, _⟩
 ·unfold slash; omega
 ·unfold slash; omega
def pkgB (s : ByteArray) : ByteArray := s.extract 0 (max 0 (slash s)).toNat
theorem package_any (s : ByteArray) (hs : s.size < 4611686018427387904) (w : World) : Calls Tryz.prog 94 #[.string s] w fun e w' => e = .returned (.string (pkgB s)) ∧ w' = w := by
 have L : Calls Tryz.prog 120 #[.string s, .int .u8 47] w fun e w' => e = .returned (.int .i64 (slash s)) ∧ w' = w := Tryz.strings_LastIndexByte s 47 hs w; replace L := Lib.hid L; have hb := slash_bd s; have hfin : pkgB s = s.extract 0 (max 0 (slash s)).toNat := rfl; generalize slash s = i at *
 have hb2 : 0 ≤ max 0 i ∧ max 0 i ≤ (s.size : Int) := by omega
 replace hfin := Lib.hid hfin; go_enter Tryz.func94, Tryz.ntmps94; go_wp2_with (go_at_call 120; refine L.out.mono ?_; rintro e w1 ⟨rfl, rfl⟩); go_ret
 exact ⟨by rw [hfin.out]; rfl, rfl⟩
end Go.Proofs.YtaipkdglhfhhiaaGreatDoor.Nm

namespace Go.Proofs.YtaipkdglhfhhiaaGreatDoor.Ty
open Go Go.RowKit Go.Proofs.YtaipkdglhfhhiaaGreatDoor.Nm
set_option linter.unusedVariables false
set_option linter.unusedSimpArgs false
def bs (l : List UInt8) : ByteArray := ⟨l.toArray⟩
theorem mk_size (l : List UInt8) : (bs l).size = l.length := by show l.toArray.size = _; simp
theorem mk_toList (l : List UInt8) : (bs l).data.toList = l := by simp [bs]
theorem mk_data (s : ByteArray) : bs s.data.toList = s := by cases s; simp [bs]
def opens : List UInt8 → Nat
 | [] => 0
 | x :: l => if x = 91 then opens l + 1 else 0
def past : List UInt8 → List UInt8
 | [] => []
 | x :: l => if x = 91 then past l else x :: l
def upTo : List UInt8 → List UInt8
 | [] => []
 | x :: l => if x = 59 then [] else x :: upTo l
def behind : List UInt8 → Option (List UInt8)
 | [] => none
 | x :: l => if x = 59 then some l else behind l
structure Rd where
 dims : Nat
 name : List UInt8
 rest : Option (List UInt8)
def rd (l : List UInt8) : Rd :=
 match past l with
 | [] => ⟨opens l, [], none⟩
 | x :: r =>
  if x = 73 then ⟨opens l, [], some r⟩
  else if x = 76 then
   ⟨opens l, upTo r, if validB (bs (upTo r)) then behind r else none⟩
  else ⟨opens l, [], none⟩
theorem past_opens (l : List UInt8) : opens l + (past l).length = l.length := by
 induction l with
 | nil => rfl
 | cons x l ih => rw [opens, past]; split <;> simp; omega
theorem behind_len (l r : List UInt8) (h : behind l = some r) : r.length < l.length := by
 induction l with
 | nil => cases h
 | cons x l ih =>
  rw [behind] at h
  split at h
  ·cases h; simp
  ·have := ih h; simp; omega
theorem rd_len (l r : List UInt8) (h : (rd l).rest = some r) : (rd l).dims + r.length < l.length := by
 have hp := past_opens l
 revert h
 rw [rd]
 split
 ·intro h; cases h
 ·rename_i x q hq
  rw [hq] at hp; simp only [List.length_cons] at hp
  split
  ·intro h; cases h; show opens l + _ < _; omega
  ·split
   ·intro h
    simp only at h
    split at h
    ·have := behind_len _ _ h; show opens l + _ < _; omega
    ·cases h
   ·intro h; cases h
theorem opens_le (l : List UInt8) : opens l ≤ l.length := by have := past_opens l; omega
theorem past_self (q : List UInt8) (h : ∀ r, q ≠ 91 :: r) : past q = q ∧ opens q = 0 := by
 cases q with
 | nil => exact ⟨rfl, rfl⟩
 | cons x r =>
  have hx : x ≠ 91 := fun e => h r (by rw [e]); simp [past, opens, hx]
theorem index59 (l : List UInt8) : (behind l = none ∧ Lib.index l [59] = -1 ∧ upTo l = l) ∨ (∃ n : Nat, Lib.index l [59] = n ∧ upTo l = l.take n ∧ behind l = some (l.drop (n + 1))) := by
 induction l with
 | nil => exact .inl ⟨rfl, rfl, rfl⟩
 | cons x l ih =>
  by_cases hx : x = 59
  ·subst hx
   refine .inr ⟨0, ?_, rfl, rfl⟩; simp [Lib.index, List.isPrefixOf]
  ·have hp : ([59] : List UInt8).isPrefixOf (x :: l) = false := by simp [List.isPrefixOf, Ne.symm hx]
   rcases ih with ⟨h1, h2, h3⟩ | ⟨n, h1, h2, h3⟩
   ·left
    simp [behind, upTo, Lib.index, hx, hp, h1, h2, h3]
   ·right
    refine ⟨n + 1, ?_, ?_, ?_⟩
    ·rw [Lib.index, if_neg (by simp [hp]), h1]
     have : ((n : Int) == -1) = false := beq_eq_false_iff_ne.2 (by omega); simp [this]
    ·simp [upTo, hx, h2]
    ·simp [behind, hx, h3]
theorem cut59 (l : List UInt8) : Lib.cut l [59] = (upTo l, (behind l).getD [], (behind l).isSome) := by
 rcases index59 l with ⟨h1, h2, h3⟩ | ⟨n, h1, h2, h3⟩
 ·simp [Lib.cut, h1, h2, h3]
 ·rw [Lib.cut, h1, if_pos (by omega), h2, h3]
  simp
theorem u8_ne {x : UInt8} {n : Nat} (h : n < 256) (hx : (x.toNat : Int) = n) : x = UInt8.ofNat n := by
 apply UInt8.toNat_inj.1
 simp
 omega
end Go.Proofs.YtaipkdglhfhhiaaGreatDoor.Ty

namespace Go.Proofs.YtaipkdglhfhhiaaGreatDoor.Ty
open Go Go.RowKit Go.Proofs.YtaipkdglhfhhiaaGreatDoor.Nm
set_option linter.unusedVariables false
set_option linter.unusedSimpArgs false
set_option maxHeartbeats 1000000
structure Cur (w : World) (b : Nat) (l : List UInt8) (wide : Bool) : Prop where
 c0 : w.cell? ⟨b, 0, none⟩ = some (.string (bs l))
 c1 : w.cell? ⟨b, 1, none⟩ = some (.bool wide)
 f0 : w.frozen? ⟨b, 0, none⟩ = false
 f1 : w.frozen? ⟨b, 1, none⟩ = false
def took (l : List UInt8) (c : UInt8) : Bool := l.head? == some c
theorem take_empty (b : Nat) (wide : Bool) (c : UInt8) (w : World) (h : Cur w b [] wide) : Calls Tryz.prog 150 #[.pointer (some ⟨b, 0, none⟩), .int .u8 (c.toNat : Int)] w fun e w' => e = .returned (.bool false) ∧ w' = w := by
 have h0 := h.c0; have hmk : bs [] = ⟨#[]⟩ := rfl; rw [hmk] at h0; go_enter Tryz.func150, Tryz.ntmps150; go_wp2; go_ret
 exact ⟨rfl, rfl⟩
theorem take_cons (b : Nat) (x : UInt8) (l : List UInt8) (hl : l.length < 4294967281) (wide : Bool) (c : UInt8) (w : World) (h : Cur w b (x :: l) wide) : Calls Tryz.prog 150 #[.pointer (some ⟨b, 0, none⟩), .int .u8 (c.toNat : Int)] w fun e w' => e = .returned (.bool (decide (x = c))) ∧ w' = if x = c then w.setCell ⟨b, 0, none⟩ (.string (bs l)) else w := by
 have h0 := h.c0; have h1 := h.f0
 have hne : ¬ (bs (x :: l)).toList = [] := by
  rw [ByteArray.toList_eq]; simp [bs]
 have hie : (bs (x :: l)).toList.isEmpty = false := by
  rw [ByteArray.toList_eq]; simp [bs]
 have hz := mk_size (x :: l)
 have hx : bt (bs (x :: l)) 0 = (x.toNat : Int) := by simp [bt, bs]
 have ht : ∀ h : 0 < (bs (x :: l)).size, (((bs (x :: l))[0]'h).toNat : Int) = x.toNat := fun h => (bt_at _ _ h).trans hx
 have hs : (bs (x :: l)).extract 1 (bs (x :: l)).size = bs l := by
  apply bytes_inj
  rw [ex_data]; rw [mk_toList, mk_toList, mk_size]; simp
 simp only [List.length_cons] at hz
 have hr : 0 ≤ (x.toNat : Int) ∧ (x.toNat : Int) ≤ 255 := by have := x.toNat_lt; omega
 have hcr : 0 ≤ (c.toNat : Int) ∧ (c.toNat : Int) ≤ 255 := by have := c.toNat_lt; omega
 clear hx h; generalize bs (x :: l) = s at *; go_enter Tryz.func150, Tryz.ntmps150
 have hsz : s.extract 1 (l.length + 1) = bs l := by rw [← hz, hs]
 by_cases hc : x = c
 ·subst hc
  go_wp2
  all_goals go_ret
  all_goals simp_all
 ·have hc2 : ¬ (x.toNat : Int) = (c.toNat : Int) := fun h => hc (UInt8.toNat_inj.1 (by omega))
  go_wp2
  all_goals go_ret
  all_goals simp_all
theorem gb_set (w : World) (b k : Nat) (v : Value) : w.grownBy (w.setCell ⟨b, k, none⟩ v) (some b) :=
 ⟨rfl, rfl, rfl, (KeepsWalks.setCell w _ v).size, fun j _ hk => Below.heap_setCell _ _ _ j (fun e => hk (by rw [e]))⟩
theorem Cur.lt {w : World} {b : Nat} {l : List UInt8} {wd : Bool} (h : Cur w b l wd) : b < w.heap.size := World.block_lt_of_cell? w _ h.c0
theorem Cur.kept {w w' : World} {b : Nat} {l : List UInt8} {wd : Bool} (h : Cur w b l wd) {row : Option Nat} (hg : w.grownBy w' row) (hne : some b ≠ row) : Cur w' b l wd :=
 ⟨(hg.cell_far _ h.lt hne).trans h.c0, (hg.cell_far _ h.lt hne).trans h.c1, (hg.frozen_far _ h.lt hne).trans h.f0, (hg.frozen_far _ h.lt hne).trans h.f1⟩
theorem Cur.set0 {w : World} {b : Nat} {l : List UInt8} {wd : Bool} (h : Cur w b l wd) (q : List UInt8) : Cur (w.setCell ⟨b, 0, none⟩ (.string (bs q))) b q wd := by
 have := h.c0; have := h.c1; have := h.f0; have := h.f1
 constructor <;> simp_all [World.cell?_setCell_same, World.cell?_setCell_other, World.frozen?_setCell]
theorem Cur.set1 {w : World} {b : Nat} {l : List UInt8} {wd : Bool} (h : Cur w b l wd) (q : Bool) : Cur (w.setCell ⟨b, 1, none⟩ (.bool q)) b l q := by
 have := h.c0; have := h.c1; have := h.f0; have := h.f1
 constructor <;> simp_all [World.cell?_setCell_same, World.cell?_setCell_other, World.frozen?_setCell]
def left (l : List UInt8) (c : UInt8) : List UInt8 := if took l c = true then l.tail else l
theorem take_any (b : Nat) (l : List UInt8) (hl : l.length < 4294967281) (wide : Bool) (c : UInt8) (w : World) (h : Cur w b l wide) : Calls Tryz.prog 150 #[.pointer (some ⟨b, 0, none⟩), .int .u8 (c.toNat : Int)] w fun e w' => e = .returned (.bool (took l c)) ∧ Cur w' b (left l c) wide ∧ w.grownBy w' (some b) := by
 cases l with
 | nil =>
  refine (take_empty b wide c w h).mono ?_; rintro e w1 ⟨rfl, rfl⟩
  exact ⟨rfl, h, World.grownBy.refl _ _⟩
 | cons x l =>
  refine (take_cons b x l (by simp at hl; omega) wide c w h).mono ?_; rintro e w1 ⟨rfl, rfl⟩
  by_cases hx : x = c
  ·subst hx
   have : took (x :: l) x = true := by simp [took]
   rw [left, this]; simp only [decide_true, if_true, List.tail]
   exact ⟨trivial, h.set0 _, gb_set _ _ _ _⟩
  ·have : took (x :: l) c = false := by simp [took, hx]
   rw [left, this]; simp only [hx, decide_false, if_false, Bool.false_eq_true]
   exact ⟨trivial, h, World.grownBy.refl _ _⟩
end Go.Proofs.YtaipkdglhfhhiaaGreatDoor.Ty

namespace Go.Proofs.YtaipkdglhfhhiaaGreatDoor.Ty
open Go Go.RowKit Go.Proofs.YtaipkdglhfhhiaaGreatDoor.Nm
set_option linter.unusedVariables false
set_option linter.unusedSimpArgs false
set_option maxHeartbeats 1000000
structure Two (w : World) (B : Nat) (k : Int) (nm : ByteArray) : Prop where
 c0 : w.cell? ⟨B, 0, none⟩ = some (.int .i64 k)
 c1 : w.cell? ⟨B, 1, none⟩ = some (.string nm)
 f0 : w.frozen? ⟨B, 0, none⟩ = false
 f1 : w.frozen? ⟨B, 1, none⟩ = false
theorem Two.lt {w : World} {b : Nat} {l : Int} {wd : ByteArray} (h : Two w b l wd) : b < w.heap.size := World.block_lt_of_cell? w _ h.c0
theorem Two.kept {w w' : World} {b : Nat} {l : Int} {wd : ByteArray} (h : Two w b l wd) {row : Option Nat} (hg : w.grownBy w' row) (hne : some b ≠ row) : Two w' b l wd :=
 ⟨(hg.cell_far _ h.lt hne).trans h.c0, (hg.cell_far _ h.lt hne).trans h.c1, (hg.frozen_far _ h.lt hne).trans h.f0, (hg.frozen_far _ h.lt hne).trans h.f1⟩
theorem Two.drew {w : World} {b : Nat} {l : Int} {wd : ByteArray} (h : Two w b l wd) : Two w.drew b l wd := ⟨h.c0, h.c1, h.f0, h.f1⟩
theorem Cur.drew {w : World} {b : Nat} {l : List UInt8} {wd : Bool} (h : Cur w b l wd) : Cur w.drew b l wd := ⟨h.c0, h.c1, h.f0, h.f1⟩
theorem gb_drew {w w1 : World} {row : Option Nat} (h : w.grownBy w1 row) : w.grownBy w1.drew row := ⟨h.os, h.tape, h.output, h.size, h.block⟩
theorem Two.set0 {w : World} {b : Nat} {l : Int} {wd : ByteArray} (h : Two w b l wd) (q : Int) : Two (w.setCell ⟨b, 0, none⟩ (.int .i64 q)) b q wd := by
 have := h.c0; have := h.c1; have := h.f0; have := h.f1
 constructor <;> simp_all [World.cell?_setCell_same, World.cell?_setCell_other, World.frozen?_setCell]
theorem Two.set1 {w : World} {b : Nat} {l : Int} {wd : ByteArray} (h : Two w b l wd) (q : ByteArray) : Two (w.setCell ⟨b, 1, none⟩ (.string q)) b l q := by
 have := h.c0; have := h.c1; have := h.f0; have := h.f1
 constructor <;> simp_all [World.cell?_setCell_same, World.cell?_setCell_other, World.frozen?_setCell]
theorem Two.new (w : World) (k : Int) (nm : ByteArray) (t : TypeId) : Two (w.alloc (.cells #[.int .i64 k, .string nm] t)) w.heap.size k nm := by
 constructor
 ·rw [cell_new]; rfl
 ·rw [cell_new]; rfl
 ·unfold World.frozen?; rw [heap_alloc_new]; rfl
 ·unfold World.frozen?; rw [heap_alloc_new]; rfl
theorem gb_new {w w1 : World} {b : Nat} (h : w.grownBy w1 (some b)) (j : Nat) (v : Value) : w.grownBy (w1.setCell ⟨w.heap.size, j, none⟩ v) (some b) :=
 h.andThen (gb_set _ _ _ _) (fun j hj => .inl (by cases hj; exact Nat.le_refl _))
theorem gb_below {w w1 : World} (h : Below w.heap.size w w1) : w.grownBy w1 none := ⟨h.os, h.tape, h.output, h.size, fun k hk _ => h.block k hk⟩
theorem gb_none {w w1 : World} (h : w.grownBy w1 none) : Below w.heap.size w w1 := ⟨h.os, h.tape, h.output, h.size, fun k hk => h.block k hk (by simp)⟩
theorem gb_weak {w w1 : World} (h : w.grownBy w1 none) (row : Option Nat) : w.grownBy w1 row := ⟨h.os, h.tape, h.output, h.size, fun k hk _ => h.block k hk (by simp)⟩
theorem ml_kept {w w1 : World} (_ : ML w) {b : Nat} {l : List UInt8} {wd : Bool} (_ : Cur w b l wd) (_ : w.grownBy w1 (some b)) : ML w1 := trivial
theorem cut_any (r : List UInt8) (hr : r.length < 4294967281) (w : World) (hm : ML w) : Calls Tryz.prog 163 #[.string (bs r), .string ⟨#[59]⟩] w fun e w' => e = .returned (.tuple #[.string (bs (upTo r)), .string (bs ((behind r).getD [])), .bool (behind r).isSome]) ∧ w.grownBy w' none := by
 refine (Lib1.cut1 Tryz.lays145 (bs r) 59 w (by rw [mk_size]; exact hr)).mono ?_; rintro e w1 ⟨rfl, n, rfl⟩; rw [mk_toList, cut59]
 exact ⟨rfl, ⟨rfl, rfl, rfl, Nat.le_refl _, fun _ _ _ => rfl⟩⟩
theorem one_any (b : Nat) (l : List UInt8) (hl : l.length < 4294967281) (wide : Bool) (w : World) (h : Cur w b l wide) (hm : ML w) : Calls Tryz.prog 151 #[.pointer (some ⟨b, 0, none⟩)] w fun e w' =>
  ∃ d nm, e = .returned (.tuple #[.agg #[.int .i64 d, .string nm], .bool (rd l).rest.isSome]) ∧ w.grownBy w' (some b) ∧ (∀ r, (rd l).rest = some r → d = (rd l).dims ∧ nm = bs (rd l).name ∧ Cur w' b r (wide || decide (255 < (rd l).dims))) := by
 have hb := h.lt; go_enter Tryz.func151, Tryz.ntmps151; go_wp2
 go_loopg [] l.length (fun g wr => ∃ (k : Nat) (q : List UInt8), g = q.length ∧ q.length + k = l.length ∧ opens q + k = opens l ∧ past q = past l ∧ Cur wr b q wide ∧ Two wr w.heap.size k ⟨#[]⟩ ∧ w.grownBy wr (some b))
 case atStart => exact ⟨0, l, rfl, by omega, by omega, rfl, h.kept (World.grownBy_alloc _ _ none) (by simp), Two.new _ _ _ _, World.grownBy_alloc _ _ _⟩
 case round =>
  obtain ⟨k, q, hg, hlen, hop, hpa, hC, hT, hgr⟩ := hrel
  have hq : q.length < 4294967281 := by omega
  have hopl := opens_le l
  have hne : some w.heap.size ≠ some b := by intro e; injection e with e; omega
  replace hne := Lib.hid hne; replace hop := Lib.hid hop; replace hpa := Lib.hid hpa; go_wp2_with fail; refine (take_any b q hq wide 91 _ hC).mono ?_; rintro e w1 ⟨rfl, hC1, hg1⟩; replace hT := hT.kept hg1 hne.out; replace hgr := hgr.trans hg1; clear hC hg1; replace hC1 := Lib.hid hC1; replace hgr := Lib.hid hgr
  cases ht : took q 91
  ·have hnq : ∀ r, q ≠ 91 :: r := by rintro r rfl; simp [took] at ht
   have hself := past_self q hnq
   have hpq : past l = q := by rw [← hpa.out, hself.1]
   have hk : k = opens l := by have := hop.out; rw [hself.2] at this; omega
   have hC2 : Cur w1 b q wide := by have := hC1.out; rwa [left, ht] at this
   have h1 := hT.c0; have h2 := hC2.c1; have h3 := hC2.f1; clear hC1 hop hpa hself; replace hT := Lib.hid hT; replace hC2 := Lib.hid hC2; replace hpq := Lib.hid hpq; replace hk := Lib.hid hk; replace hnq := Lib.hid hnq; go_upto_region 3 with fail
   go_cut [3] (fun v3 wc => v3 = .bool false ∧ Cur wc b q (wide || decide (255 < k)) ∧ Two wc w.heap.size k ⟨#[]⟩ ∧ w.grownBy wc (some b))
   case first =>
    go_wp2
    all_goals
     go_meet
     case rel =>
      refine ⟨rfl, ?_, hT.out.kept (gb_set _ _ _ _) hne.out, hgr.out.trans (gb_set _ _ _ _)⟩; have := hC2.out.set1 (wide || decide (255 < k)); have hdd : decide (255 < (k : Int)) = decide (255 < k) := decide_eq_decide.2 (by omega)
      simp_all
   case rest =>
    obtain ⟨rfl, hC3, hT3, hg3⟩ := hcut; clear hT hC2 hgr h1 h2 h3; generalize hwd : (wide || decide (255 < k)) = wd at *; replace hwd := Lib.hid hwd; go_wp2_with fail; refine (take_any b q hq _ 73 _ hC3).mono ?_; rintro e w4 ⟨rfl, hC4, hg4⟩; replace hT3 := hT3.kept hg4 hne.out; replace hg3 := hg3.trans hg4; clear hC3 hg4; replace hC4 := Lib.hid hC4; replace hg3 := Lib.hid hg3
    cases t73 : took q 73
    ·have hC5 : Cur w4 b q wd := by have := hC4.out; rwa [left, t73] at this
     clear hC4; go_wp2_with fail; refine (take_any b q hq _ 76 _ hC5).mono ?_; rintro e w5 ⟨rfl, hC6, hg6⟩; replace hT3 := hT3.kept hg6 hne.out; replace hg3 := hg3.out.trans hg6; clear hC5 hg6; replace hC6 := Lib.hid hC6; replace hg3 := Lib.hid hg3
     cases t76 : took q 76
     ·have hrd : rd l = ⟨k, [], none⟩ := by
       rw [rd, hpq.out]
       cases q with
       | nil => simp [hk.out]
       | cons x r =>
        have n1 : x ≠ 73 := by rintro rfl; simp [took] at t73
        have n2 : x ≠ 76 := by rintro rfl; simp [took] at t76
        simp [hk.out, n1, n2]
      have h1 := hT3.c0; have h2 := hT3.c1; have h3 := hT3.f0; have h4 := hT3.f1; replace hT3 := Lib.hid hT3; replace hrd := Lib.hid hrd; clear hpq hk; go_wp2; have T5 := (hT3.out.set0 k).set1 ⟨#[]⟩; refine bodyPost_ret (v := .tuple #[.agg #[.int .i64 k, .string ⟨#[]⟩], .bool false]) (by simp [results, Tryz.results151, go_sem, T5.c0, T5.c1]) rfl ⟨k, ⟨#[]⟩, ?_, gb_new (gb_new hg3.out _ _) _ _, ?_⟩
      ·rw [hrd.out]; rfl
      ·intro r1 hr1
       rw [hrd.out] at hr1
       cases hr1
     ·obtain ⟨r, rfl⟩ : ∃ r, q = 76 :: r := by
       cases q with
       | nil => simp [took] at t76
       | cons x r => simp [took] at t76; exact ⟨r, by rw [t76]⟩
      have hC7 : Cur w5 b r wd := by have := hC6.out; rwa [left, t76] at this
      have hM5 : ML w5 := ml_kept hm h hg3.out
      have hrd : rd l = ⟨k, upTo r, if validB (bs (upTo r)) then behind r else none⟩ := by rw [rd, hpq.out]; simp [hk.out]
      simp only [List.length_cons] at hq hlen; clear hC6 hpq hk; have p1 := hC7.c0; go_wp2_with fail; refine (cut_any r (by omega) _ hM5).mono ?_; rintro e w6 ⟨rfl, hg7⟩; replace hT3 := hT3.kept hg7 (by simp); replace hC7 := hC7.kept hg7 (by simp); replace hg3 := Lib.hid (hg3.out.trans (gb_weak hg7 _)); have hM6 := hM5.below (gb_none hg7); clear hM5 hg7 p1; have h1 := hT3.c0; have h2 := hT3.c1; have h3 := hT3.f0; have h4 := hT3.f1; have h5 := hC7.c0; have h6 := hC7.f0; replace hT3 := Lib.hid hT3; replace hC7 := Lib.hid hC7; replace hM6 := Lib.hid hM6; replace hrd := Lib.hid hrd; have hne2 : w.heap.size ≠ b := fun e => hne.out (by rw [e]); go_upto_region 9 with fail; have T9 := (hT3.out.set1 (bs (upTo r))).kept (gb_set _ b 0 (.string (bs ((behind r).getD [])))) hne.out; have C9 := (hC7.out.kept (gb_set _ w.heap.size 1 (.string (bs (upTo r)))) (Ne.symm hne.out)).set0 ((behind r).getD []); have G9 := (gb_new hg3.out 1 (.string (bs (upTo r)))).trans (gb_set _ b 0 (.string (bs ((behind r).getD [])))); clear h1 h2 h3 h4 h5 h6 hT3 hC7 hg3 hM6; generalize (w6.setCell ⟨w.heap.size, 1, none⟩ (.string (bs (upTo r)))).setCell ⟨b, 0, none⟩ (.string (bs ((behind r).getD []))) = W9 at *; have M9 : ML W9 := ml_kept hm h G9; have h1 := T9.c0; have h2 := T9.c1; have h3 := T9.f0; have h4 := T9.f1; have V := Lib.hid (valid_any (bs (upTo r)) W9.drew M9); replace T9 := Lib.hid T9; replace C9 := Lib.hid C9; replace G9 := Lib.hid G9; clear M9
      cases hbr : behind r with
      | none =>
       rw [hbr] at hrd
       have hrd2 : rd l = ⟨k, upTo r, none⟩ := by rw [hrd.out]; simp
       replace hrd2 := Lib.hid hrd2; clear hrd V; replace hbr := Lib.hid hbr; simp only [Option.isSome_none, Option.getD_none]; go_region; go_wp2; have T5 := ((T9.out.set0 k).set1 (bs (upTo r))).drew; refine bodyPost_ret (v := .tuple #[.agg #[.int .i64 k, .string (bs (upTo r))], .bool false]) (by simp [results, Tryz.results151, go_sem, T5.c0, T5.c1]) rfl ⟨k, bs (upTo r), ?_, gb_drew (gb_new (gb_new G9.out _ _) _ _), ?_⟩
       ·rw [hrd2.out]; rfl
       ·intro r1 hr1
        rw [hrd2.out] at hr1
        cases hr1
      | some r2 =>
       replace hbr := Lib.hid hbr
       go_region_with (go_at_call 107; refine V.out.mono ?_; rintro e w10 ⟨rfl, hb10⟩; have T10 := T9.out.drew.kept (gb_below hb10) (by simp); have h1' := T10.c0; have h2' := T10.c1; have h3' := T10.f0; have h4' := T10.f1; replace T10 := Lib.hid T10; replace hb10 := Lib.hid hb10)
       all_goals go_wp2
       all_goals
        have T5 := (T10.out.set0 k).set1 (bs (upTo r)); refine bodyPost_ret (v := .tuple #[.agg #[.int .i64 k, .string (bs (upTo r))], .bool (validB (bs (upTo r)))]) (by simp [results, Tryz.results151, go_sem, T5.c0, T5.c1]) rfl ⟨k, bs (upTo r), ?_, gb_new (gb_new ((gb_drew G9.out).trans (gb_weak (gb_below hb10.out) _)) _ _) _ _, ?_⟩
        ·rw [hrd.out, hbr.out]; cases validB (bs (upTo r)) <;> rfl
        ·intro r1 hr1
         have hC := C9.out; rw [hbr.out] at hC; rw [hrd.out] at hr1 ⊢; simp only at hr1
         split at hr1
         ·rw [hbr.out] at hr1
          cases hr1
          refine ⟨rfl, rfl, ?_⟩; rw [hwd.out]
          exact ((hC.drew.kept (gb_below hb10.out) (by simp)).kept (gb_set _ _ _ _) (Ne.symm hne.out)).kept (gb_set _ _ _ _) (Ne.symm hne.out)
         ·cases hr1
    ·obtain ⟨r, rfl⟩ : ∃ r, q = 73 :: r := by
      cases q with
      | nil => simp [took] at t73
      | cons x r => simp [took] at t73; exact ⟨r, by rw [t73]⟩
     have h1 := hT3.c0; have h2 := hT3.c1; have h3 := hT3.f0; have h4 := hT3.f1; replace hT3 := Lib.hid hT3
     have hrd : rd l = ⟨k, [], some r⟩ := by rw [rd, hpq.out]; simp [hk.out]
     replace hrd := Lib.hid hrd; clear hpq hk; go_wp2; have T5 := (hT3.out.set0 k).set1 ⟨#[]⟩; refine bodyPost_ret (v := .tuple #[.agg #[.int .i64 k, .string ⟨#[]⟩], .bool true]) (by simp [results, Tryz.results151, go_sem, T5.c0, T5.c1]) rfl ⟨k, ⟨#[]⟩, ?_, gb_new (gb_new hg3.out _ _) _ _, ?_⟩
     ·rw [hrd.out]; rfl
     ·intro r1 hr1
      rw [hrd.out] at hr1 ⊢
      cases hr1
      refine ⟨rfl, rfl, ?_⟩; have h5 := hC4.out; rw [left, t73] at h5; rw [hwd.out]
      exact (h5.kept (gb_set _ _ _ _) (Ne.symm hne.out)).kept (gb_set _ _ _ _) (Ne.symm hne.out)
  ·obtain ⟨r, rfl⟩ : ∃ r, q = 91 :: r := by
    cases q with
    | nil => simp [took] at ht
    | cons x r => simp [took] at ht; exact ⟨r, by rw [ht]⟩
   have h1 := hT.c0; have h2 := hT.f0; simp only [List.length_cons] at hlen hq; replace hT := Lib.hid hT; go_wp2
   go_roundg r.length
   case rel => exact ⟨k + 1, r, rfl, by omega, by have := hop.out; simp [opens] at this; omega, by have := hpa.out; simpa [past] using this, (by have := hC1.out; rw [left, ht] at this; exact this.kept (gb_set _ _ _ _) (Ne.symm hne.out)), by have := hT.out.set0 (k + 1); simpa using this, hgr.out.andThen (gb_set _ _ _ _) (fun j hj => .inl (by cases hj; exact Nat.le_refl _))⟩
   case measure => simp at hg; omega
end Go.Proofs.YtaipkdglhfhhiaaGreatDoor.Ty

namespace Go.Proofs.YtaipkdglhfhhiaaGreatDoor.Ty
open Go Go.RowKit Go.Proofs.YtaipkdglhfhhiaaGreatDoor.Nm
set_option linter.unusedVariables false
set_option linter.unusedSimpArgs false
set_option maxHeartbeats 1000000
def parseT (l : List UInt8) : Int × List UInt8 × Int :=
 if 2000 < l.length then (0, [], 5) else
  match (rd l).rest with
  | none => (0, [], 4)
  | some r => if r ≠ [] then (0, [], 4) else if 255 < (rd l).dims then (0, [], 5) else ((rd l).dims, (rd l).name, 0)
def tyV (d : Int) (nm : List UInt8) : Value := .agg #[.int .i64 d, .string (bs nm)]
theorem bs_nil : bs [] = ⟨#[]⟩ := rfl
theorem Cur.new (w : World) (l : List UInt8) (wd : Bool) (t : TypeId) : Cur (w.alloc (.cells #[.string (bs l), .bool wd] t)) w.heap.size l wd := by
 constructor
 ·rw [cell_new]; rfl
 ·rw [cell_new]; rfl
 ·unfold World.frozen?; rw [heap_alloc_new]; rfl
 ·unfold World.frozen?; rw [heap_alloc_new]; rfl
theorem ml_alloc {w : World} (h : ML w) (o : Obj) : ML (w.alloc o) := h.below (gb_none (World.grownBy_alloc w o none))
theorem parse_any (l : List UInt8) (w : World) (hm : ML w) : Calls Tryz.prog 176 #[.string (bs l)] w fun e w' =>
  e = .returned (.tuple #[tyV (parseT l).1 (parseT l).2.1, .int .i64 (parseT l).2.2]) ∧ Below w.heap.size w w' := by
 have hz := mk_size l
 have hzl : ((bs l).size : Int) = l.length := by rw [hz]
 clear hz; have T0 := Two.new w 0 ⟨#[]⟩ 24; have HM := Lib.hid hm
 by_cases hbig : 2000 < l.length
 ·have hp : parseT l = (0, [], 5) := by simp [parseT, hbig]
  rw [hp]; replace hp := Lib.hid hp; replace T0 := Lib.hid T0; go_enter Tryz.func176, Tryz.ntmps176; go_wp2; refine bodyPost_ret (v := .tuple #[tyV 0 [], .int .i64 5]) (by simp [results, Tryz.results176, go_sem, tyV, bs_nil]) rfl ⟨rfl, ?_⟩; have B0 := Below.refl w.heap.size w
  repeat' (first | assumption | apply Below.setCell | apply Below.alloc | apply Below.drew)
  all_goals (first | omega | (simp; done) | (simp; omega))
 ·have hp : parseT l = match (rd l).rest with
   | none => (0, [], 4)
   | some r => if r ≠ [] then (0, [], 4) else if 255 < (rd l).dims then (0, [], 5) else ((rd l).dims, (rd l).name, 0) := by rw [parseT, if_neg hbig]
  replace hp := Lib.hid hp
  have hsm : (l.length : Int) ≤ 2000 := by omega
  have C0 := Cur.new (w.alloc (.cells #[.int .i64 0, .string ⟨#[]⟩] 24)) l false 190; have M0 := ml_alloc (ml_alloc hm (.cells #[.int .i64 0, .string ⟨#[]⟩] 24)) (.cells #[.string (bs l), .bool false] 190); have T1 := T0.kept (World.grownBy_alloc _ (.cells #[.string (bs l), .bool false] 190) none) (by simp)
  have hz2 : (w.alloc (.cells #[.int .i64 0, .string ⟨#[]⟩] 24)).heap.size = w.heap.size + 1 := by simp
  rw [hz2] at C0; have O := Lib.hid (one_any (w.heap.size + 1) l (by omega) false _ C0 M0); have B0 : Below w.heap.size w ((w.alloc (.cells #[.int .i64 0, .string ⟨#[]⟩] 24)).alloc (.cells #[.string (bs l), .bool false] 190)) := ((Below.refl _ _).alloc (Nat.le_refl _) _).alloc (by simp) _; replace T1 := Lib.hid T1; replace B0 := Lib.hid B0; clear T0 C0 M0 hm hz2; go_enter Tryz.func176, Tryz.ntmps176; go_wp2_with fail; refine O.out.mono ?_; rintro e w3 ⟨d, nm, rfl, hg, hsome⟩; have T3 := T1.out.kept hg (by simp); have B3 := B0.out.grown hg (by simp; omega) (by simp); have hsz := B3.size; have hlt := T3.lt; clear T1 B0 O hg; have f0 := T3.f0; have h1 := T3.c0; have h2 := T3.c1; have f1 := T3.f1; replace T3 := Lib.hid T3; replace hsome := Lib.hid hsome
  cases hr : (rd l).rest with
  | none =>
   rw [hr] at hp; have hp2 : parseT l = (0, [], 4) := hp.out; replace hp2 := Lib.hid hp2; clear hsome hp; go_wp2; have T5 := ((T3.out.set0 0).set1 ⟨#[]⟩).kept (World.grownBy_alloc _ (.cells #[.int .i64 d, .string nm] 24) none) (by simp); refine bodyPost_ret (v := .tuple #[tyV 0 [], .int .i64 4]) (by simp [results, Tryz.results176, go_sem, tyV, bs_nil, T5.c0, T5.c1]) rfl ⟨by rw [hp2.out], ?_⟩
   repeat' (first | assumption | apply Below.setCell | apply Below.alloc | apply Below.drew)
   all_goals (first | omega | (simp; done) | (simp; omega))
  | some r =>
   obtain ⟨rfl, rfl, hC⟩ := hsome.out r hr; rw [hr] at hp; have q0 := hC.c0; have q1 := hC.c1; have hlt2 := hC.lt
   have hdr : ((rd l).dims : Int) ≤ 4294967281 := by have := rd_len l r hr; omega
   clear hsome; replace hC := Lib.hid hC; generalize (rd l).dims = k at *; generalize (rd l).name = nm at *; rw [Bool.false_or] at q1
   cases r with
   | nil =>
    rw [bs_nil] at q0
    by_cases hk : 255 < k
    ·have hp2 : parseT l = (0, [], 5) := by rw [hp.out]; simp [hk]
     replace hp2 := Lib.hid hp2; simp only [hk, decide_true] at q1; clear hp; go_wp2; have T5 := ((T3.out.set0 0).set1 ⟨#[]⟩).kept (World.grownBy_alloc _ (.cells #[.int .i64 k, .string (bs nm)] 24) none) (by simp); refine bodyPost_ret (v := .tuple #[tyV 0 [], .int .i64 5]) (by simp [results, Tryz.results176, go_sem, tyV, bs_nil, T5.c0, T5.c1]) rfl ⟨by rw [hp2.out], ?_⟩
     repeat' (first | assumption | apply Below.setCell | apply Below.alloc | apply Below.drew)
     all_goals (first | omega | (simp; done) | (simp; omega))
    ·have hp2 : parseT l = ((k : Int), nm, 0) := by rw [hp.out]; simp [hk]
     replace hp2 := Lib.hid hp2; simp only [hk, decide_false] at q1; clear hp; go_wp2; have T5 := ((T3.out.set0 k).set1 (bs nm)).kept (World.grownBy_alloc _ (.cells #[.int .i64 k, .string (bs nm)] 24) none) (by simp); refine bodyPost_ret (v := .tuple #[tyV k nm, .int .i64 0]) (by simp [results, Tryz.results176, go_sem, tyV, bs_nil, T5.c0, T5.c1]) rfl ⟨by rw [hp2.out], ?_⟩
     repeat' (first | assumption | apply Below.setCell | apply Below.alloc | apply Below.drew)
     all_goals (first | omega | (simp; done) | (simp; omega))
   | cons x r =>
    have hp2 : parseT l = (0, [], 4) := by rw [hp.out]; simp
    replace hp2 := Lib.hid hp2
    have hne : ¬ (bs (x :: r)).toList = [] := by
     rw [ByteArray.toList_eq]; simp [bs]
    have hie : (bs (x :: r)).toList.isEmpty = false := by
     rw [ByteArray.toList_eq]; simp [bs]
    generalize bs (x :: r) = sr at *; clear hp; go_wp2; have T5 := ((T3.out.set0 0).set1 ⟨#[]⟩).kept (World.grownBy_alloc _ (.cells #[.int .i64 k, .string (bs nm)] 24) none) (by simp); refine bodyPost_ret (v := .tuple #[tyV 0 [], .int .i64 4]) (by simp [results, Tryz.results176, go_sem, tyV, bs_nil, T5.c0, T5.c1]) rfl ⟨by rw [hp2.out], ?_⟩
    repeat' (first | assumption | apply Below.setCell | apply Below.alloc | apply Below.drew)
    all_goals (first | omega | (simp; done) | (simp; omega))
end Go.Proofs.YtaipkdglhfhhiaaGreatDoor.Ty

namespace Go.Proofs.YtaipkdglhfhhiaaGreatDoor.Ty
open Go Go.RowKit Go.Proofs.YtaipkdglhfhhiaaGreatDoor.Nm
set_option linter.unusedVariables false
set_option linter.unusedSimpArgs false
set_option maxHeartbeats 1000000
set_option maxRecDepth 10000
def brk (l : List UInt8) : Bool := took l 91
def parseR (l : List UInt8) : Int × List UInt8 × Int :=
 if 2000 < l.length then (0, [], 5) else if brk l then parseT l else if validB (bs l) then (0, l, 0) else (0, [], 4)
theorem parseT_big (l : List UInt8) (h : 2000 < l.length) : parseT l = (0, [], 5) := by rw [parseT, if_pos h]
theorem prefix_any (l : List UInt8) (w : World) : Calls Tryz.prog 182 #[.string (bs l), .string ⟨#[91]⟩] w fun e w' => e = .returned (.bool (brk l)) ∧ w' = w := by
 refine (Tryz.strings_HasPrefix (bs l) ⟨#[91]⟩ w).mono ?_; rintro e w1 ⟨rfl, rfl⟩; refine ⟨ret_bool ?_, rfl⟩; rw [mk_toList]
 cases l with
 | nil => rfl
 | cons x l =>
  have h91 : (⟨#[91]⟩ : ByteArray).data.toList = [91] := rfl; rw [h91]; rw [Bool.eq_iff_iff]; simp [Lib.hasPrefix, brk, took, List.isPrefixOf]
  exact eq_comm
theorem parseref_any (l : List UInt8) (w : World) (hm : ML w) : Calls Tryz.prog 175 #[.string (bs l)] w fun e w' =>
  e = .returned (.tuple #[tyV (parseR l).1 (parseR l).2.1, .int .i64 (parseR l).2.2]) ∧ Below w.heap.size w w' := by
 have hz := mk_size l
 have hzl : ((bs l).size : Int) = l.length := by rw [hz]
 clear hz; have T0 := Two.new w 0 ⟨#[]⟩ 24; have M0 := ml_alloc hm (.cells #[.int .i64 0, .string ⟨#[]⟩] 24); have B0 : Below w.heap.size w (w.alloc (.cells #[.int .i64 0, .string ⟨#[]⟩] 24)) := (Below.refl _ _).alloc (Nat.le_refl _) _; have PR : Hid (∀ W, _) := Lib.hid (fun W => prefix_any l W); have P := Lib.hid (parse_any l _ M0); have V := Lib.hid (valid_any (bs l) _ M0); replace T0 := Lib.hid T0; replace B0 := Lib.hid B0; clear M0 hm
 cases hb : brk l
 ·rw [hb] at PR
  by_cases hbig : 2000 < l.length
  ·have hp : parseR l = (0, [], 5) := by simp [parseR, hbig]
   replace hp := Lib.hid hp; clear P V; go_enter Tryz.func175, Tryz.ntmps175; go_wp2_with (go_at_call 182; refine (PR.out _).mono ?_; rintro e w1 ⟨rfl, rfl⟩); refine bodyPost_ret (v := .tuple #[tyV 0 [], .int .i64 5]) (by simp [results, Tryz.results175, go_sem, tyV, bs_nil]) rfl ⟨by rw [hp.out], ?_⟩; have B1 := B0.out
   repeat' (first | assumption | apply Below.setCell | apply Below.alloc | apply Below.drew)
   all_goals (first | omega | (simp; done) | (simp; omega))
  ·have hsm : (l.length : Int) ≤ 2000 := by omega
   cases hv : validB (bs l)
   ·have hp : parseR l = (0, [], 4) := by simp [parseR, hbig, hb, hv]
    replace hp := Lib.hid hp; rw [hv] at V; clear P; go_enter Tryz.func175, Tryz.ntmps175; go_wp2_with (go_at_call 182; refine (PR.out _).mono ?_; rintro e w1 ⟨rfl, rfl⟩); refine V.out.mono ?_; rintro e w3 ⟨rfl, hg⟩; have T3 := T0.out.kept (gb_below hg) (by simp); have B3 := B0.out.trans (hg.mono (by simp)); clear T0 B0 V hg; have hsz := B3.size; have f0 := T3.f0; have h1 := T3.c0; have h2 := T3.c1; have f1 := T3.f1; replace T3 := Lib.hid T3; go_wp2; have T5 := (T3.out.set0 0).set1 ⟨#[]⟩; refine bodyPost_ret (v := .tuple #[tyV 0 [], .int .i64 4]) (by simp [results, Tryz.results175, go_sem, tyV, bs_nil, T5.c0, T5.c1]) rfl ⟨by rw [hp.out], ?_⟩
    repeat' (first | assumption | apply Below.setCell | apply Below.alloc | apply Below.drew)
    all_goals (first | omega | (simp; done) | (simp; omega))
   ·have hp : parseR l = (0, l, 0) := by simp [parseR, hbig, hb, hv]
    replace hp := Lib.hid hp; rw [hv] at V; clear P; go_enter Tryz.func175, Tryz.ntmps175; go_wp2_with (go_at_call 182; refine (PR.out _).mono ?_; rintro e w1 ⟨rfl, rfl⟩); refine V.out.mono ?_; rintro e w3 ⟨rfl, hg⟩; have T3 := T0.out.kept (gb_below hg) (by simp); have B3 := B0.out.trans (hg.mono (by simp)); clear T0 B0 V hg; have hsz := B3.size; have f0 := T3.f0; have h1 := T3.c0; have h2 := T3.c1; have f1 := T3.f1; replace T3 := Lib.hid T3; go_wp2; have T5 := (T3.out.set0 0).set1 (bs l); refine bodyPost_ret (v := .tuple #[tyV 0 l, .int .i64 0]) (by simp [results, Tryz.results175, go_sem, tyV, bs_nil, T5.c0, T5.c1]) rfl ⟨by rw [hp.out], ?_⟩
    repeat' (first | assumption | apply Below.setCell | apply Below.alloc | apply Below.drew)
    all_goals (first | omega | (simp; done) | (simp; omega))
 ·rw [hb] at PR
  have hp : parseR l = parseT l := by
   rw [parseR]
   split
   ·exact (parseT_big l (by assumption)).symm
   ·first | rfl | rw [if_pos hb]
  replace hp := Lib.hid hp; clear V
  obtain ⟨d, nm, er, hpt⟩ : ∃ d nm er, parseT l = (d, nm, er) := ⟨_, _, _, rfl⟩
  rw [hpt] at P; simp only [tyV] at P; replace hpt := Lib.hid hpt; go_enter Tryz.func175, Tryz.ntmps175; go_wp2_with (go_at_call 182; refine (PR.out _).mono ?_; rintro e w1 ⟨rfl, rfl⟩); refine P.out.mono ?_; rintro e w3 ⟨rfl, hg⟩; have T3 := T0.out.kept (gb_below hg) (by simp); have B3 := B0.out.trans (hg.mono (by simp)); clear T0 B0 P hg; have hsz := B3.size; have f0 := T3.f0; have h1 := T3.c0; have h2 := T3.c1; have f1 := T3.f1; replace T3 := Lib.hid T3; go_wp2; have T5 := (T3.out.set0 d).set1 (bs nm); refine bodyPost_ret (v := .tuple #[tyV d nm, .int .i64 er]) (by simp [results, Tryz.results175, go_sem, tyV, bs_nil, T5.c0, T5.c1]) rfl ⟨by rw [hp.out, hpt.out], ?_⟩
  repeat' (first | assumption | apply Below.setCell | apply Below.alloc | apply Below.drew)
  all_goals (first | omega | (simp; done) | (simp; omega))
theorem first_byte (l : List UInt8) : (l.length = 0 ∧ brk l = false) ∨ (0 < (l.length : Int) ∧ ∃ x : UInt8, (∀ h : 0 < (bs l).size, (((bs l)[0]'h).toNat : Int) = x.toNat) ∧ ((x.toNat : Int) == 91) = brk l) := by
 cases l with
 | nil => exact .inl ⟨rfl, rfl⟩
 | cons x r =>
  right
  refine ⟨by simp only [List.length_cons]; omega, x, fun h => (bt_at _ 0 h).trans (by simp [bt, bs]), ?_⟩; rw [Bool.eq_iff_iff]; simp only [beq_iff_eq, brk, took, List.head?_cons, Option.some_beq_some]
  constructor
  ·intro h; exact u8_ne (n := 91) (by omega) h
  ·rintro rfl; rfl
end Go.Proofs.YtaipkdglhfhhiaaGreatDoor.Ty

namespace Go.Proofs.YtaipkdglhfhhiaaGreatDoor.Ty
open Go Go.RowKit Go.Proofs.YtaipkdglhfhhiaaGreatDoor.Nm
set_option linter.unusedVariables false
set_option linter.unusedSimpArgs false
def rdArgs : Nat → List UInt8 → Option (List (Nat × List UInt8) × List UInt8)
 | 0, _ => none
 | f + 1, l =>
  if took l 41 then some ([], l.tail) else
   match (rd l).rest with
   | none => none
   | some r => (rdArgs f r).map fun p => (((rd l).dims, (rd l).name) :: p.1, p.2)
def prep (ts : List (Nat × List UInt8)) (o : Option (List (Nat × List UInt8) × List UInt8)) : Option (List (Nat × List UInt8) × List UInt8) := o.map fun p => (ts ++ p.1, p.2)
theorem prep_nil (o : Option (List (Nat × List UInt8) × List UInt8)) : prep [] o = o := by cases o <;> rfl
theorem rdArgs_close (f : Nat) (l : List UInt8) (ts) (h : took l 41 = true) : prep ts (rdArgs (f + 1) l) = some (ts, l.tail) := by
 rw [rdArgs, if_pos h]; simp [prep]
theorem rdArgs_fail (f : Nat) (l : List UInt8) (ts) (h : took l 41 = false) (hr : (rd l).rest = none) : prep ts (rdArgs (f + 1) l) = none := by
 rw [rdArgs, if_neg (by simp [h]), hr]; rfl
theorem rdArgs_step (f : Nat) (l r : List UInt8) (ts) (h : took l 41 = false) (hr : (rd l).rest = some r) : prep ts (rdArgs (f + 1) l) = prep (ts ++ [((rd l).dims, (rd l).name)]) (rdArgs f r) := by
 rw [rdArgs, if_neg (by simp [h]), hr]
 show prep ts ((rdArgs f r).map _) = _
 cases rdArgs f r <;> simp [prep]
def wideL (ts : List (Nat × List UInt8)) : Bool := ts.any fun a => decide (255 < a.1)
theorem wideL_snoc (ts : List (Nat × List UInt8)) (k : Nat) (nm : List UInt8) : wideL (ts ++ [(k, nm)]) = (wideL ts || decide (255 < k)) := by simp [wideL]
def tyCells (ts : List (Nat × List UInt8)) : List Value := ts.flatMap fun a => [.int .i64 a.1, .string (bs a.2)]
theorem tyCells_snoc (ts : List (Nat × List UInt8)) (k : Nat) (nm : List UInt8) : tyCells (ts ++ [(k, nm)]) = tyCells ts ++ [.int .i64 k, .string (bs nm)] := by simp [tyCells]
structure DescR where
 args : List (Nat × List UInt8)
 void : Bool
 rdims : Int
 rname : List UInt8
def DescR.zero : DescR := ⟨[], false, 0, []⟩
def descEnd (d : DescR) (wide : Bool) (r : List UInt8) : DescR × Int :=
 if r ≠ [] then (.zero, 4) else if wide || decide (20 < d.args.length) then (.zero, 5) else (d, 0)
def descRet (ts : List (Nat × List UInt8)) (q : List UInt8) : DescR × Int :=
 if took q 86 then descEnd ⟨ts, true, 0, []⟩ (wideL ts) q.tail
 else match (rd q).rest with
  | none => (.zero, 4)
  | some r => descEnd ⟨ts, false, (rd q).dims, (rd q).name⟩ (wideL ts || decide (255 < (rd q).dims)) r
def descOf : Option (List (Nat × List UInt8) × List UInt8) → DescR × Int
 | none => (.zero, 4)
 | some p => descRet p.1 p.2
def parseD (l : List UInt8) : DescR × Int :=
 if 2000 < l.length then (.zero, 5) else if took l 40 then descOf (rdArgs (l.length + 1) l.tail) else (.zero, 4)
theorem parseD_big (l : List UInt8) (h : 2000 < l.length) : parseD l = (.zero, 5) := by rw [parseD, if_pos h]
theorem parseD_not (l : List UInt8) (h : ¬ 2000 < l.length) (ht : took l 40 = false) : parseD l = (.zero, 4) := by rw [parseD, if_neg h, if_neg (by simp [ht])]
theorem parseD_args (l : List UInt8) (h : ¬ 2000 < l.length) (ht : took l 40 = true) : parseD l = descOf (rdArgs (l.length + 1) l.tail) := by rw [parseD, if_neg h, if_pos ht]
end Go.Proofs.YtaipkdglhfhhiaaGreatDoor.Ty

namespace Go.Proofs.YtaipkdglhfhhiaaGreatDoor.Ty
open Go Go.RowKit Go.Proofs.YtaipkdglhfhhiaaGreatDoor.Nm
set_option linter.unusedVariables false
set_option linter.unusedSimpArgs false
set_option maxHeartbeats 1000000
set_option maxRecDepth 10000
structure Four (w : World) (B : Nat) (v : Value) (void : Bool) (k : Int) (nm : ByteArray) : Prop where
 c0 : w.cell? ⟨B, 0, none⟩ = some v
 c1 : w.cell? ⟨B, 1, none⟩ = some (.bool void)
 c2 : w.cell? ⟨B, 2, none⟩ = some (.int .i64 k)
 c3 : w.cell? ⟨B, 3, none⟩ = some (.string nm)
 f0 : w.frozen? ⟨B, 0, none⟩ = false
 f1 : w.frozen? ⟨B, 1, none⟩ = false
 f2 : w.frozen? ⟨B, 2, none⟩ = false
 f3 : w.frozen? ⟨B, 3, none⟩ = false
section
variable {w w' : World} {b : Nat} {v : Value} {vo : Bool} {k : Int} {nm : ByteArray}
theorem Four.lt (h : Four w b v vo k nm) : b < w.heap.size := World.block_lt_of_cell? w _ h.c0
theorem Four.drew (h : Four w b v vo k nm) : Four w.drew b v vo k nm := ⟨h.c0, h.c1, h.c2, h.c3, h.f0, h.f1, h.f2, h.f3⟩
theorem Four.kept (h : Four w b v vo k nm) {row : Option Nat} (hg : w.grownBy w' row) (hne : some b ≠ row) : Four w' b v vo k nm :=
 ⟨(hg.cell_far _ h.lt hne).trans h.c0, (hg.cell_far _ h.lt hne).trans h.c1, (hg.cell_far _ h.lt hne).trans h.c2, (hg.cell_far _ h.lt hne).trans h.c3,
  (hg.frozen_far _ h.lt hne).trans h.f0, (hg.frozen_far _ h.lt hne).trans h.f1, (hg.frozen_far _ h.lt hne).trans h.f2, (hg.frozen_far _ h.lt hne).trans h.f3⟩
theorem Four.set0 (h : Four w b v vo k nm) (q : Value) : Four (w.setCell ⟨b, 0, none⟩ q) b q vo k nm := by
 have := h.c0; have := h.c1; have := h.c2; have := h.c3; have := h.f0; have := h.f1; have := h.f2; have := h.f3
 constructor <;> simp_all [World.cell?_setCell_same, World.cell?_setCell_other, World.frozen?_setCell]
theorem Four.set1 (h : Four w b v vo k nm) (q : Bool) : Four (w.setCell ⟨b, 1, none⟩ (.bool q)) b v q k nm := by
 have := h.c0; have := h.c1; have := h.c2; have := h.c3; have := h.f0; have := h.f1; have := h.f2; have := h.f3
 constructor <;> simp_all [World.cell?_setCell_same, World.cell?_setCell_other, World.frozen?_setCell]
theorem Four.set2 (h : Four w b v vo k nm) (q : Int) : Four (w.setCell ⟨b, 2, none⟩ (.int .i64 q)) b v vo q nm := by
 have := h.c0; have := h.c1; have := h.c2; have := h.c3; have := h.f0; have := h.f1; have := h.f2; have := h.f3
 constructor <;> simp_all [World.cell?_setCell_same, World.cell?_setCell_other, World.frozen?_setCell]
theorem Four.set3 (h : Four w b v vo k nm) (q : ByteArray) : Four (w.setCell ⟨b, 3, none⟩ (.string q)) b v vo k q := by
 have := h.c0; have := h.c1; have := h.c2; have := h.c3; have := h.f0; have := h.f1; have := h.f2; have := h.f3
 constructor <;> simp_all [World.cell?_setCell_same, World.cell?_setCell_other, World.frozen?_setCell]
theorem Four.new (w : World) (v : Value) (vo : Bool) (k : Int) (nm : ByteArray) (t : TypeId) : Four (w.alloc (.cells #[v, .bool vo, .int .i64 k, .string nm] t)) w.heap.size v vo k nm := by
 constructor
 iterate 4 (rw [cell_new]; rfl)
 all_goals (unfold World.frozen?; rw [heap_alloc_new]; rfl)
end
theorem own_mono {w : World} {base base' : Nat} {e : TypeId} {size n : Nat} {v : Value} {xs : List Value} (h : w.ownsRow base e size v n xs) (hb : base' ≤ base) : w.ownsRow base' e size v n xs :=
 ⟨h.1, h.2.imp id fun ⟨g, cap, cur, e, hg, r⟩ => ⟨g, cap, cur, e, Nat.le_trans hb hg, r⟩⟩
def descV (v : Value) (vo : Bool) (k : Int) (nm : ByteArray) : Value := .agg #[v, .bool vo, .int .i64 k, .string nm]
structure Good (w wr : World) (o : Option (List (Nat × List UInt8) × List UInt8)) (f : Nat) (q : List UInt8) (ts : List (Nat × List UInt8)) (v : Value) : Prop where
 len : q.length < f
 small : f ≤ 2001
 count : ts.length + f ≤ 2001
 rest : prep ts (rdArgs f q) = o
 cur : Cur wr (w.heap.size + 1) q (wideL ts)
 desc : Four wr (w.heap.size + 1 + 1) v false 0 ⟨#[]⟩
 own : wr.ownsRow (w.heap.size + 3) 24 2 v ts.length (tyCells ts)
theorem infoT : (Tryz.prog.info? 24).map (fun i => (i.zero, i.size, i.bytes)) = some (some (.agg #[.int .i64 0, .string ⟨#[]⟩]), 2, 24) := by kernel_rfl
theorem parsedesc_any (l : List UInt8) (w : World) (hm : ML w) : Calls Tryz.prog 128 #[.string (bs l)] w fun e w' =>
  ∃ v, e = .returned (.tuple #[descV v (parseD l).1.void (parseD l).1.rdims (bs (parseD l).1.rname), .int .i64 (parseD l).2]) ∧ w'.ownsRow w.heap.size 24 2 v (parseD l).1.args.length (tyCells (parseD l).1.args) ∧ Below w.heap.size w w' := by
 have hz := mk_size l
 have hzl : ((bs l).size : Int) = l.length := by rw [hz]
 clear hz
 by_cases hbig : 2000 < l.length
 ·have hp : parseD l = (.zero, 5) := parseD_big l hbig
  replace hp := Lib.hid hp; go_enter Tryz.func128, Tryz.ntmps128; go_wp2
  go_step3
  go_wp2; rw [Exit.noGoto_ret]; refine bodyPost_ret (v := .tuple #[descV (.slice none 0 0) false 0 ⟨#[]⟩, .int .i64 5]) (by simp [results, Tryz.results128, go_sem, descV]) rfl ⟨_, by rw [hp.out]; rfl, by rw [hp.out]; exact World.ownsRow_nil _ _ _ _, ?_⟩; have B0 := Below.refl w.heap.size w
  repeat' (first | assumption | apply Below.setCell | apply Below.alloc | apply Below.drew)
  all_goals (first | omega | (simp; done) | (simp; omega))
 ·have hpn := Lib.hid (parseD_not l hbig)
  have hpa := Lib.hid (parseD_args l hbig)
  have hsm : (l.length : Int) ≤ 2000 := by omega
  go_enter Tryz.func128, Tryz.ntmps128; go_wp2
  go_step3
  go_wp2_with fail; have R0 := Four.new w (.slice none 0 0) false 0 ⟨#[]⟩ 172; have C0 := Cur.new (w.alloc (.cells #[.slice none 0 0, .bool false, .int .i64 0, .string ⟨#[]⟩] 172)) l false 190; have D0 := Four.new ((w.alloc (.cells #[.slice none 0 0, .bool false, .int .i64 0, .string ⟨#[]⟩] 172)).alloc (.cells #[.string (bs l), .bool false] 190)) (.slice none 0 0) false 0 ⟨#[]⟩ 172
  have hz1 : (w.alloc (.cells #[.slice none 0 0, .bool false, .int .i64 0, .string ⟨#[]⟩] 172)).heap.size = w.heap.size + 1 := by simp
  have hz2 : ((w.alloc (.cells #[.slice none 0 0, .bool false, .int .i64 0, .string ⟨#[]⟩] 172)).alloc (.cells #[.string (bs l), .bool false] 190)).heap.size = w.heap.size + 1 + 1 := by simp
  rw [hz1] at C0; rw [hz2] at D0; have R1 := (R0.kept (World.grownBy_alloc _ (.cells #[.string (bs l), .bool false] 190) none) (by simp)).kept (World.grownBy_alloc _ (.cells #[.slice none 0 0, .bool false, .int .i64 0, .string ⟨#[]⟩] 172) none) (by simp); have C1 := C0.kept (World.grownBy_alloc _ (.cells #[.slice none 0 0, .bool false, .int .i64 0, .string ⟨#[]⟩] 172) none) (by simp); have B1 : Below w.heap.size w (((w.alloc (.cells #[.slice none 0 0, .bool false, .int .i64 0, .string ⟨#[]⟩] 172)).alloc (.cells #[.string (bs l), .bool false] 190)).alloc (.cells #[.slice none 0 0, .bool false, .int .i64 0, .string ⟨#[]⟩] 172)) := (((Below.refl _ _).alloc (Nat.le_refl _) _).alloc (by simp) _).alloc (by simp; omega) _; refine (take_any (w.heap.size + 1) l (by omega) false 40 _ C1).mono ?_; rintro e w1 ⟨rfl, hC, hg⟩; have hR := R1.kept hg (by simp); have hD := D0.kept hg (by simp); have hsz1 := hD.lt; have hB := B1.grown hg (by simp; omega) (by simp); clear R0 C0 D0 hz1 hz2 R1 C1 B1 hg; replace hC := Lib.hid hC; replace hR := Lib.hid hR; replace hD := Lib.hid hD; replace hB := Lib.hid hB; have hM : ML w1 := hm.below hB.out; replace hM := Lib.hid hM
  obtain ⟨o, ho⟩ : ∃ o, o = if took l 40 then rdArgs (l.length + 1) l.tail else none := ⟨_, rfl⟩
  have hpo : parseD l = descOf o := by
   cases ht : took l 40
   ·rw [ho, ht, hpn.out ht]; rfl
   ·rw [ho, ht, hpa.out ht]; rfl
  replace hpo := Lib.hid hpo
  have hstart : took l 40 = true → ∃ q ts v, Good w w1 o (l.length + 1) q ts v := by
   intro ht; refine ⟨l.tail, [], .slice none 0 0, ?_⟩; have h0 := hC.out; rw [left, if_pos ht] at h0
   exact ⟨by simp; omega, by omega, by simp; omega, by rw [prep_nil, ho, if_pos ht], h0, hD.out, World.ownsRow_nil _ _ _ _⟩
  have hstart2 : took l 40 = false → o = none := by
   intro ht; rw [ho, ht]; rfl
  replace hstart := Lib.hid hstart; replace hstart2 := Lib.hid hstart2; clear ho hpn hpa hC hD; generalize took l 40 = ok0 at *; go_wp2
  go_step3
  go_wp2
  go_loopg [6] (l.length + 1) (fun g v6 wr => ∃ ok : Bool, v6 = .bool ok ∧ Four wr w.heap.size (.slice none 0 0) false 0 ⟨#[]⟩ ∧ ML wr ∧ Below w.heap.size w wr ∧ w.heap.size + 1 + 1 < wr.heap.size ∧ (ok = false → o = none) ∧ (ok = true → ∃ q ts v, Good w wr o g q ts v))
  case atStart => exact ⟨ok0, rfl, hR.out, hM.out, hB.out, hsz1, hstart2.out, hstart.out⟩
  case round =>
   obtain ⟨ok, rfl, hR, hM, hB, hsz, hno, hyes⟩ := hrel; have hlt := hR.lt; replace hM := Lib.hid hM; replace hB := Lib.hid hB
   cases ok
   ·have hpo2 : parseD l = (.zero, 4) := by rw [hpo.out, hno rfl]; rfl
    replace hpo2 := Lib.hid hpo2; clear hno hyes hpo; have h0 := hR.c0; have h1 := hR.c1; have h2 := hR.c2; have h3 := hR.c3; have f0 := hR.f0; have f1 := hR.f1; have f2 := hR.f2; have f3 := hR.f3; replace hR := Lib.hid hR; go_wp2; rw [Exit.noGoto_ret]; have T5 := (((hR.out.set0 (.slice none 0 0)).set1 false).set2 0).set3 ⟨#[]⟩; refine bodyPost_ret (v := .tuple #[descV (.slice none 0 0) false 0 ⟨#[]⟩, .int .i64 4]) (by simp [results, Tryz.results128, go_sem, descV, T5.c0, T5.c1, T5.c2, T5.c3]) rfl ⟨_, by rw [hpo2.out]; rfl, by rw [hpo2.out]; exact World.ownsRow_nil _ _ _ _, ?_⟩; have B0 := hB.out
    repeat' (first | assumption | apply Below.setCell | apply Below.alloc | apply Below.drew)
    all_goals (first | omega | (simp; done) | (simp; omega))
   ·obtain ⟨q, ts, v, G⟩ := hyes rfl
    clear hno hyes; have hql := G.len; have hqs := G.small; go_wp2_with fail; refine (take_any (w.heap.size + 1) q (by omega) (wideL ts) 41 _ G.cur).mono ?_; rintro e w2 ⟨rfl, hC, hg⟩; have hD := G.desc.kept hg (by simp)
    have hown := G.own.kept hg (by
     by_cases hb : v.ownBlock = none
     ·exact .inl hb
     ·right
      obtain ⟨kb, hkb⟩ := Option.ne_none_iff_exists'.1 hb; have := (G.own.lt kb hkb).1; rw [hkb]; intro e
      cases e
      omega)
    replace hR := hR.kept hg (by simp); have hM2 : ML w2 := ml_kept hM.out G.cur hg; have hB2 := hB.out.grown hg (by omega) (by simp); have hsz2 : w.heap.size + 1 + 1 < w2.heap.size := Nat.lt_of_lt_of_le hsz hg.size; have hrest := G.rest; have hcnt := G.count; clear G hg hM hB hlt hsz; replace hC := Lib.hid hC; replace hown := Lib.hid hown; replace hM2 := Lib.hid hM2; replace hB2 := Lib.hid hB2; replace hrest := Lib.hid hrest
    obtain ⟨f, rfl⟩ : ∃ f, gk = f + 1 := ⟨gk - 1, by omega⟩
    have hne : ∀ k, v.ownBlock = some k → w.heap.size + 3 ≤ k ∧ k < w2.heap.size := hown.out.lt
    have hneq : ∀ m, (m < w.heap.size + 3 ∨ w2.heap.size ≤ m) → v.ownBlock = none ∨ v.ownBlock ≠ some m := by
     intro m hm
     right
     intro e; have := hne m e
     omega
    replace hneq := Lib.hid hneq; clear hne
    cases t41 : took q 41
    ·have hC0 : Cur w2 (w.heap.size + 1) q (wideL ts) := by have := hC.out; rwa [left, t41] at this
     clear hC; have hTt := Two.new w2 0 ⟨#[]⟩ 24; have gA := World.grownBy_alloc w2 (.cells #[.int .i64 0, .string ⟨#[]⟩] 24) none
     have hsA : (w2.alloc (.cells #[.int .i64 0, .string ⟨#[]⟩] 24)).heap.size = w2.heap.size + 1 := by simp
     have hC1 := hC0.kept gA (by simp); have hM1 := ml_alloc hM2.out (.cells #[.int .i64 0, .string ⟨#[]⟩] 24); have hD1 := hD.kept gA (by simp); have hR1 := hR.kept gA (by simp); have hO1 := hown.out.alloc (.cells #[.int .i64 0, .string ⟨#[]⟩] 24); have hB1 := hB2.out.alloc (by omega) (.cells #[.int .i64 0, .string ⟨#[]⟩] 24); have O := Lib.hid (one_any (w.heap.size + 1) q (by omega) (wideL ts) _ hC1 hM1); replace hsA := Lib.hid hsA; replace gA := Lib.hid gA; replace hTt := Lib.hid hTt; replace hC1 := Lib.hid hC1; replace hM1 := Lib.hid hM1; replace hD1 := Lib.hid hD1; replace hR1 := Lib.hid hR1; replace hO1 := Lib.hid hO1; replace hB1 := Lib.hid hB1; clear hC0 hD hR hown hB2 hM2; go_wp2_with fail; refine O.out.mono ?_; rintro e w3 ⟨d, nm, rfl, hg3, hsome⟩
     have hTn : some w2.heap.size ≠ some (w.heap.size + 1) := by intro e; injection e with e; omega
     have hT3 := hTt.out.kept hg3 hTn; have hD3 := hD1.out.kept hg3 (by simp); have hR3 := hR1.out.kept hg3 (by simp); have hO3 := hO1.out.kept hg3 (hneq.out _ (.inl (by omega))); have hB3 := hB1.out.grown hg3 (by rw [hsA.out]; omega) (by simp); have hM3 := ml_kept hM1.out hC1.out hg3
     have hs3 : w2.heap.size < w3.heap.size := by have := hg3.size; rw [hsA.out] at this; omega
     clear O hTt hD1 hR1 hO1 hB1 hM1 hC1 hg3 gA hsA; have h1 := hT3.c0; have h2 := hT3.c1; have h3 := hT3.f0; have h4 := hT3.f1; replace hT3 := Lib.hid hT3; replace hD3 := Lib.hid hD3; replace hR3 := Lib.hid hR3; replace hO3 := Lib.hid hO3; replace hB3 := Lib.hid hB3; replace hM3 := Lib.hid hM3; replace hsome := Lib.hid hsome; go_upto_region 10 with fail; have g1 := gb_set w3 w2.heap.size 0 (.int .i64 d); have g2 := gb_set (w3.setCell ⟨w2.heap.size, 0, none⟩ (.int .i64 d)) w2.heap.size 1 (.string nm); have g12 := g1.trans g2; have hT4 := (hT3.out.set0 d).set1 nm
     have hx1 : some (w.heap.size + 1 + 1) ≠ some w2.heap.size := by intro e; injection e with e; omega
     have hx2 : some w.heap.size ≠ some w2.heap.size := by intro e; injection e with e; omega
     have hx3 : some (w.heap.size + 1) ≠ some w2.heap.size := by intro e; injection e with e; omega
     have hD4 := hD3.out.kept g12 hx1; have hR4 := hR3.out.kept g12 hx2; have hO4 := hO3.out.kept g12 (hneq.out _ (.inr (Nat.le_refl _))); have hB4 := hB3.out.grown g12 (by have := hB3.out.size; omega) (by intro k hk; cases hk; omega); have hs4 := g12.size; have hM4 : ML ((w3.setCell ⟨w2.heap.size, 0, none⟩ (.int .i64 d)).setCell ⟨w2.heap.size, 1, none⟩ (.string nm)) := hm.below hB4; have hC4 : ∀ r, (rd q).rest = some r → Cur ((w3.setCell ⟨w2.heap.size, 0, none⟩ (.int .i64 d)).setCell ⟨w2.heap.size, 1, none⟩ (.string nm)) (w.heap.size + 1) r (wideL ts || decide (255 < (rd q).dims)) := fun r hr => (hsome.out r hr).2.2.kept g12 hx3
     have hdn : ∀ r, (rd q).rest = some r → d = (rd q).dims ∧ nm = bs (rd q).name := fun r hr => ⟨(hsome.out r hr).1, (hsome.out r hr).2.1⟩
     clear g1 g2 g12 h1 h2 h3 h4 hT3 hD3 hR3 hO3 hB3 hM3 hsome hx1 hx2 hx3; generalize (w3.setCell ⟨w2.heap.size, 0, none⟩ (.int .i64 d)).setCell ⟨w2.heap.size, 1, none⟩ (.string nm) = W4 at *; have h1 := hT4.c0; have h2 := hT4.c1; have k1 := hD4.c0; have k2 := hD4.f0
     have hs5 : w.heap.size + 3 ≤ W4.heap.size := by omega
     have hv1 : ∀ m, m < w.heap.size + 3 → some m ≠ v.ownBlock := by
      intro m hm
      rcases hneq.out m (.inl hm) with h | h
      ·rw [h]; simp
      ·exact Ne.symm h
     have hvD := hv1 (w.heap.size + 1 + 1) (by omega); have hvR := hv1 w.heap.size (by omega); have hvC := hv1 (w.heap.size + 1) (by omega); clear hv1; replace hvD := Lib.hid hvD; replace hvR := Lib.hid hvR; replace hvC := Lib.hid hvC; replace hT4 := Lib.hid hT4; replace hD4 := Lib.hid hD4; replace hR4 := Lib.hid hR4; replace hO4 := Lib.hid hO4; replace hB4 := Lib.hid hB4; replace hM4 := Lib.hid hM4; replace hC4 := Lib.hid hC4; replace hdn := Lib.hid hdn; go_wp2_with (at_builtin; go_loud (refine append1 (w.heap.size + 3) rfl _ _ _ 24 (.agg #[.int .i64 0, .string ⟨#[]⟩]) 2 24 rfl Tryz.underlying66 infoT rfl (by decide) _ _ _ [.int .i64 d, .string nm] rfl _ (by simp) rfl rfl (by simp [Value.oneCell']) (by exact hO4.out) (by omega) (by omega) (by omega) ?_); intro v1 w5 hown5 hg5; obtain ⟨A1, cp1, rfl⟩ := own_shape hown5; have hD5 := hD4.out.kept hg5 hvD.out; have k1' := hD5.c0; have k2' := hD5.f0; replace hD5 := Lib.hid hD5; replace hown5 := Lib.hid hown5; replace hg5 := Lib.hid hg5)
     go_roundg f
     case rel =>
      have hR5 := hR4.out.kept hg5.out hvR.out; have hB5 := hB4.out.grown hg5.out (by omega) (by intro k hk; have := (hO4.out.lt k hk).1; omega); have gs := gb_set w5 (w.heap.size + 1 + 1) 0 (.slice A1 (ts.length + 1) cp1); refine ⟨_, rfl, hR5.kept gs (by simp; omega), hm.below (hB5.setCell (by simp; omega) _), hB5.setCell (by simp; omega) _, ?_, ?_, ?_⟩
      ·have := hg5.out.size; exact Nat.lt_of_lt_of_le (by omega) gs.size
      ·intro h
       have hn : (rd q).rest = none := by cases hh : (rd q).rest with | none => rfl | some r => rw [hh] at h; cases h
       rw [← hrest.out, rdArgs_fail f q ts t41 hn]
      ·intro h
       obtain ⟨r, hr⟩ : ∃ r, (rd q).rest = some r := Option.isSome_iff_exists.1 h; have hrl := rd_len q r hr; have hC5 := (hC4.out r hr).kept hg5.out hvC.out; refine ⟨r, ts ++ [((rd q).dims, (rd q).name)], .slice A1 (ts.length + 1) cp1, by omega, by omega, by simp; omega, ?_, ?_, hD5.out.set0 _, ?_⟩
       ·rw [← hrest.out, rdArgs_step f q r ts t41 hr]
       ·rw [wideL_snoc]; exact hC5.kept gs (by simp)
       ·have h6 := hown5.out
        rw [(hdn.out r hr).1, (hdn.out r hr).2, ← tyCells_snoc] at h6; rw [show (ts ++ [((rd q).dims, (rd q).name)]).length = ts.length + 1 by simp]
        exact h6.kept gs (.inr (by intro e; have := (h6.lt _ e).1; omega))
     case measure => omega
    ·have ho2 : o = some (ts, q.tail) := by rw [← hrest.out, rdArgs_close f q ts t41]
     have hpo2 : parseD l = descRet ts q.tail := by rw [hpo.out, ho2]; rfl
     have hC0 : Cur w2 (w.heap.size + 1) q.tail (wideL ts) := by have := hC.out; rwa [left, if_pos t41] at this
     have hqt : q.tail.length ≤ q.length := by simp
     generalize q.tail = q2 at *; replace hpo2 := Lib.hid hpo2; clear hC ho2 hrest t41 hpo; go_wp2_with fail; refine (take_any (w.heap.size + 1) q2 (by omega) (wideL ts) 86 _ hC0).mono ?_; rintro e w3 ⟨rfl, hC3, hg3⟩; have hD3 := hD.kept hg3 (by simp); have hR3 := hR.kept hg3 (by simp); have hO3 := hown.out.kept hg3 (hneq.out _ (.inl (by omega))); have hB3 := hB2.out.grown hg3 (by omega) (by simp); have hs3 : w2.heap.size ≤ w3.heap.size := hg3.size; clear hD hR hown hB2 hM2 hC0 hg3; have k1 := hD3.c1; have k2 := hD3.f1; replace hC3 := Lib.hid hC3; replace hD3 := Lib.hid hD3; replace hR3 := Lib.hid hR3; replace hO3 := Lib.hid hO3; replace hB3 := Lib.hid hB3
     cases t86 : took q2 86
     ·have hC4 : Cur w3 (w.heap.size + 1) q2 (wideL ts) := by have := hC3.out; rwa [left, t86] at this
      obtain ⟨A, cp, rfl⟩ := own_shape hO3.out; have gs := gb_set w3 (w.heap.size + 1 + 1) 1 (.bool false); have hD4 := hD3.out.set1 false; have hR4 := hR3.out.kept gs (by simp; omega); have hC4 := hC4.kept gs (by simp); have hO4 := hO3.out.kept gs (.inr (by intro e; have := (hO3.out.lt _ e).1; omega)); have hB4 := hB3.out.setCell (p := ⟨w.heap.size + 1 + 1, 1, none⟩) (by simp; omega) (.bool false); have hlt4 := hD4.lt; go_upto_region 13 with fail; clear gs hD3 hR3 hC3 hO3 hB3 k1 k2; generalize w3.setCell ⟨w.heap.size + 1 + 1, 1, none⟩ (.bool false) = W3 at *; have hM3 : ML W3 := hm.below hB4; have d1 := hD4.c1; have O := Lib.hid (one_any (w.heap.size + 1) q2 (by omega) (wideL ts) _ hC4 hM3); replace hC4 := Lib.hid hC4; replace hM3 := Lib.hid hM3; replace hD4 := Lib.hid hD4; replace hR4 := Lib.hid hR4; replace hO4 := Lib.hid hO4; replace hB4 := Lib.hid hB4
      have hpo3 : parseD l = match (rd q2).rest with
       | none => (DescR.zero, (4 : Int))
       | some r => descEnd ⟨ts, false, (rd q2).dims, (rd q2).name⟩ (wideL ts || decide (255 < (rd q2).dims)) r := by
       rw [hpo2.out, descRet, if_neg (by simp [t86])] <;> rfl
      replace hpo3 := Lib.hid hpo3; clear hpo2; go_wp2_with fail; refine O.out.mono ?_; rintro e w5 ⟨d, nm, rfl, hg5, hsome⟩; have hD5 := hD4.out.kept hg5 (by simp); have hR5 := hR4.out.kept hg5 (by simp); have hO5 := hO4.out.kept hg5 (.inr (by intro e; have := (hO4.out.lt _ e).1; omega)); have hB5 := hB4.out.grown hg5 (by omega) (by simp); have gs := (gb_set w5 (w.heap.size + 1 + 1) 2 (.int .i64 d)).trans (gb_set (w5.setCell ⟨w.heap.size + 1 + 1, 2, none⟩ (.int .i64 d)) (w.heap.size + 1 + 1) 3 (.string nm)); have k2 := hD5.c2; have k3 := hD5.c3; have e2 := hD5.f2; have e3 := hD5.f3; have hlt5 := hD5.lt; have hD6 := (hD5.set2 d).set3 nm; have hR6 := hR5.kept gs (by simp; omega); have hO6 := hO5.kept gs (.inr (by intro e; have := (hO5.lt _ e).1; omega)); have hB6 := hB5.grown gs (by omega) (by intro k hk; cases hk; omega)
      have hC6 : ∀ r, (rd q2).rest = some r → d = (rd q2).dims ∧ nm = bs (rd q2).name ∧ Cur ((w5.setCell ⟨w.heap.size + 1 + 1, 2, none⟩ (.int .i64 d)).setCell ⟨w.heap.size + 1 + 1, 3, none⟩ (.string nm)) (w.heap.size + 1) r (wideL ts || decide (255 < (rd q2).dims)) := fun r hr => ⟨(hsome r hr).1, (hsome r hr).2.1, (hsome r hr).2.2.kept gs (by simp)⟩
      clear hD5 hR5 hO5 hB5 gs hD4 hR4 hO4 hB4 hC4 hM3 O hg5 hsome d1; replace hD6 := Lib.hid hD6; replace hR6 := Lib.hid hR6; replace hO6 := Lib.hid hO6; replace hB6 := Lib.hid hB6; replace hC6 := Lib.hid hC6; go_upto_region 15 with fail; clear k2 k3 e2 e3; generalize (w5.setCell ⟨w.heap.size + 1 + 1, 2, none⟩ (.int .i64 d)).setCell ⟨w.heap.size + 1 + 1, 3, none⟩ (.string nm) = W4 at *; have hD4 := hD6; have hR4 := hR6; have hO4 := hO6; have hB4 := hB6; clear hD6 hR6 hO6 hB6
      cases hr : (rd q2).rest with
      | none =>
       have hpo5 : parseD l = (.zero, 4) := by rw [hpo3.out, hr]
       replace hpo5 := Lib.hid hpo5; clear hC6; have h0 := hR4.out.c0; have h1 := hR4.out.c1; have h2 := hR4.out.c2; have h3 := hR4.out.c3; have f0 := hR4.out.f0; have f1 := hR4.out.f1; have f2 := hR4.out.f2; have f3 := hR4.out.f3; have hs4 := hR4.out.lt; go_wp2; rw [Exit.noGoto_ret]; have T5 := (((hR4.out.set0 (.slice none 0 0)).set1 false).set2 0).set3 ⟨#[]⟩; refine bodyPost_ret (v := .tuple #[descV (.slice none 0 0) false 0 ⟨#[]⟩, .int .i64 4]) (by simp [results, Tryz.results128, go_sem, descV, T5.c0, T5.c1, T5.c2, T5.c3]) rfl ⟨_, by rw [hpo5.out]; rfl, by rw [hpo5.out]; exact World.ownsRow_nil _ _ _ _, ?_⟩; have B0 := hB4.out
       repeat' (first | assumption | apply Below.setCell | apply Below.alloc | apply Below.drew)
       all_goals (first | omega | (simp; done) | (simp; omega))
      | some r =>
       obtain ⟨rfl, rfl, hC4⟩ := hC6.out r hr; replace hC4 := Lib.hid hC4
       have hpo4 : parseD l = descEnd ⟨ts, false, (rd q2).dims, (rd q2).name⟩ (wideL ts || decide (255 < (rd q2).dims)) r := by rw [hpo3.out, hr]
       replace hpo4 := Lib.hid hpo4; clear hC6 hpo3 hr; generalize (wideL ts || decide (255 < (rd q2).dims)) = wd at *; generalize (rd q2).dims = k at *; generalize (rd q2).name = nm at *; have h0 := hR4.out.c0; have h1 := hR4.out.c1; have h2 := hR4.out.c2; have h3 := hR4.out.c3; have f0 := hR4.out.f0; have f1 := hR4.out.f1; have f2 := hR4.out.f2; have f3 := hR4.out.f3; have d0 := hD4.out.c0; have d1 := hD4.out.c1; have d2 := hD4.out.c2; have d3 := hD4.out.c3; have p0 := hC4.out.c0; have p1 := hC4.out.c1; have hs4 := hR4.out.lt
       cases r with
       | cons x r =>
        have hpo5 : parseD l = (.zero, 4) := by rw [hpo4.out, descEnd, if_pos (by simp)]
        replace hpo5 := Lib.hid hpo5
        have hne : ¬ (bs (x :: r)).toList = [] := by
         rw [ByteArray.toList_eq]; simp [bs]
        have hie : (bs (x :: r)).toList.isEmpty = false := by
         rw [ByteArray.toList_eq]; simp [bs]
        generalize bs (x :: r) = sr at *; go_wp2; rw [Exit.noGoto_ret]; have T5 := (((hR4.out.set0 (.slice none 0 0)).set1 false).set2 0).set3 ⟨#[]⟩; refine bodyPost_ret (v := .tuple #[descV (.slice none 0 0) false 0 ⟨#[]⟩, .int .i64 4]) (by simp [results, Tryz.results128, go_sem, descV, T5.c0, T5.c1, T5.c2, T5.c3]) rfl ⟨_, by rw [hpo5.out]; rfl, by rw [hpo5.out]; exact World.ownsRow_nil _ _ _ _, ?_⟩; have B0 := hB4.out
        repeat' (first | assumption | apply Below.setCell | apply Below.alloc | apply Below.drew)
        all_goals (first | omega | (simp; done) | (simp; omega))
       | nil =>
        rw [bs_nil] at p0
        by_cases hbad : wd = true ∨ 20 < ts.length
        ·have hpo5 : parseD l = (.zero, 5) := by rw [hpo4.out, descEnd, if_neg (by simp), if_pos (by simpa using hbad)]
         replace hpo5 := Lib.hid hpo5
         rcases hbad with rfl | hbad
         ·skip
          go_wp2; rw [Exit.noGoto_ret]; have T5 := (((hR4.out.set0 (.slice none 0 0)).set1 false).set2 0).set3 ⟨#[]⟩; refine bodyPost_ret (v := .tuple #[descV (.slice none 0 0) false 0 ⟨#[]⟩, .int .i64 5]) (by simp [results, Tryz.results128, go_sem, descV, T5.c0, T5.c1, T5.c2, T5.c3]) rfl ⟨_, by rw [hpo5.out]; rfl, by rw [hpo5.out]; exact World.ownsRow_nil _ _ _ _, ?_⟩; have B0 := hB4.out
          repeat' (first | assumption | apply Below.setCell | apply Below.alloc | apply Below.drew)
          all_goals (first | omega | (simp; done) | (simp; omega))
         ·have hbi : (20 : Int) < (ts.length : Int) := by omega
          cases wd
          all_goals
           go_wp2; rw [Exit.noGoto_ret]; have T5 := (((hR4.out.set0 (.slice none 0 0)).set1 false).set2 0).set3 ⟨#[]⟩; refine bodyPost_ret (v := .tuple #[descV (.slice none 0 0) false 0 ⟨#[]⟩, .int .i64 5]) (by simp [results, Tryz.results128, go_sem, descV, T5.c0, T5.c1, T5.c2, T5.c3]) rfl ⟨_, by rw [hpo5.out]; rfl, by rw [hpo5.out]; exact World.ownsRow_nil _ _ _ _, ?_⟩; have B0 := hB4.out
           repeat' (first | assumption | apply Below.setCell | apply Below.alloc | apply Below.drew)
           all_goals (first | omega | (simp; done) | (simp; omega))
        ·have hpo5 : parseD l = (⟨ts, false, (k : Int), nm⟩, 0) := by rw [hpo4.out, descEnd, if_neg (by simp), if_neg (by simpa using hbad)]
         replace hpo5 := Lib.hid hpo5
         obtain ⟨hw, hsm⟩ : wd = false ∧ (ts.length : Int) ≤ 20 := by simp at hbad; exact ⟨hbad.1, by omega⟩
         subst hw; go_wp2; rw [Exit.noGoto_ret]; have T5 := (((hR4.out.set0 (.slice A ts.length cp)).set1 false).set2 (k : Int)).set3 (bs nm); refine bodyPost_ret (v := .tuple #[descV (.slice A ts.length cp) false (k : Int) (bs nm), .int .i64 0]) (by simp [results, Tryz.results128, go_sem, descV, T5.c0, T5.c1, T5.c2, T5.c3]) rfl ⟨_, by rw [hpo5.out] <;> rfl, ?_, ?_⟩
         ·rw [hpo5.out]
          have hnB : ∀ kk, (Value.slice A ts.length cp).ownBlock = some kk → w.heap.size + 3 ≤ kk := fun kk h => (hO4.out.lt kk h).1; have hnn : (Value.slice A ts.length cp).ownBlock = none ∨ (Value.slice A ts.length cp).ownBlock ≠ some w.heap.size := .inr (by intro e; have := hnB _ e; omega)
          exact own_mono ((((hO4.out.kept (gb_set _ _ _ _) hnn).kept (gb_set _ _ _ _) hnn).kept (gb_set _ _ _ _) hnn).kept (gb_set _ _ _ _) hnn) (by omega)
         ·have B0 := hB4.out
          repeat' (first | assumption | apply Below.setCell | apply Below.alloc | apply Below.drew)
          all_goals (first | omega | (simp; done) | (simp; omega))
     ·have hC4 : Cur w3 (w.heap.size + 1) q2.tail (wideL ts) := by have := hC3.out; rwa [left, if_pos t86] at this
      have hpo3 : parseD l = descEnd ⟨ts, true, 0, []⟩ (wideL ts) q2.tail := by rw [hpo2.out, descRet, if_pos t86]
      obtain ⟨A, cp, rfl⟩ := own_shape hO3.out; go_upto_region 13 with fail; have gs := gb_set w3 (w.heap.size + 1 + 1) 1 (.bool true); have hD4 := hD3.out.set1 true; have hR4 := hR3.out.kept gs (by simp; omega); have hC4 := hC4.kept gs (by simp); have hO4 := hO3.out.kept gs (.inr (by intro e; have := (hO3.out.lt _ e).1; omega)); have hB4 := hB3.out.setCell (p := ⟨w.heap.size + 1 + 1, 1, none⟩) (by simp; omega) (.bool true); clear gs hD3 hR3 hC3 hO3 hB3 k1 k2; generalize w3.setCell ⟨w.heap.size + 1 + 1, 1, none⟩ (.bool true) = W4 at *; replace hD4 := Lib.hid hD4; replace hR4 := Lib.hid hR4; replace hC4 := Lib.hid hC4; replace hO4 := Lib.hid hO4; replace hB4 := Lib.hid hB4; generalize q2.tail = r at *; generalize wideL ts = wd at *; have hpo4 := Lib.hid hpo3; clear hpo3 hpo2; have h0 := hR4.out.c0; have h1 := hR4.out.c1; have h2 := hR4.out.c2; have h3 := hR4.out.c3; have f0 := hR4.out.f0; have f1 := hR4.out.f1; have f2 := hR4.out.f2; have f3 := hR4.out.f3; have d0 := hD4.out.c0; have d1 := hD4.out.c1; have d2 := hD4.out.c2; have d3 := hD4.out.c3; have p0 := hC4.out.c0; have p1 := hC4.out.c1; have hs4 := hR4.out.lt
      cases r with
      | cons x r =>
       have hpo5 : parseD l = (.zero, 4) := by rw [hpo4.out, descEnd, if_pos (by simp)]
       replace hpo5 := Lib.hid hpo5
       have hne : ¬ (bs (x :: r)).toList = [] := by
        rw [ByteArray.toList_eq]; simp [bs]
       have hie : (bs (x :: r)).toList.isEmpty = false := by
        rw [ByteArray.toList_eq]; simp [bs]
       generalize bs (x :: r) = sr at *; go_wp2; rw [Exit.noGoto_ret]; have T5 := (((hR4.out.set0 (.slice none 0 0)).set1 false).set2 0).set3 ⟨#[]⟩; refine bodyPost_ret (v := .tuple #[descV (.slice none 0 0) false 0 ⟨#[]⟩, .int .i64 4]) (by simp [results, Tryz.results128, go_sem, descV, T5.c0, T5.c1, T5.c2, T5.c3]) rfl ⟨_, by rw [hpo5.out]; rfl, by rw [hpo5.out]; exact World.ownsRow_nil _ _ _ _, ?_⟩; have B0 := hB4.out
       repeat' (first | assumption | apply Below.setCell | apply Below.alloc | apply Below.drew)
       all_goals (first | omega | (simp; done) | (simp; omega))
      | nil =>
       rw [bs_nil] at p0
       by_cases hbad : wd = true ∨ 20 < ts.length
       ·have hpo5 : parseD l = (.zero, 5) := by rw [hpo4.out, descEnd, if_neg (by simp), if_pos (by simpa using hbad)]
        replace hpo5 := Lib.hid hpo5
        rcases hbad with rfl | hbad
        ·skip
         go_wp2; rw [Exit.noGoto_ret]; have T5 := (((hR4.out.set0 (.slice none 0 0)).set1 false).set2 0).set3 ⟨#[]⟩; refine bodyPost_ret (v := .tuple #[descV (.slice none 0 0) false 0 ⟨#[]⟩, .int .i64 5]) (by simp [results, Tryz.results128, go_sem, descV, T5.c0, T5.c1, T5.c2, T5.c3]) rfl ⟨_, by rw [hpo5.out]; rfl, by rw [hpo5.out]; exact World.ownsRow_nil _ _ _ _, ?_⟩; have B0 := hB4.out
         repeat' (first | assumption | apply Below.setCell | apply Below.alloc | apply Below.drew)
         all_goals (first | omega | (simp; done) | (simp; omega))
        ·have hbi : (20 : Int) < (ts.length : Int) := by omega
         cases wd
         all_goals
          go_wp2; rw [Exit.noGoto_ret]; have T5 := (((hR4.out.set0 (.slice none 0 0)).set1 false).set2 0).set3 ⟨#[]⟩; refine bodyPost_ret (v := .tuple #[descV (.slice none 0 0) false 0 ⟨#[]⟩, .int .i64 5]) (by simp [results, Tryz.results128, go_sem, descV, T5.c0, T5.c1, T5.c2, T5.c3]) rfl ⟨_, by rw [hpo5.out]; rfl, by rw [hpo5.out]; exact World.ownsRow_nil _ _ _ _, ?_⟩; have B0 := hB4.out
          repeat' (first | assumption | apply Below.setCell | apply Below.alloc | apply Below.drew)
          all_goals (first | omega | (simp; done) | (simp; omega))
       ·have hpo5 : parseD l = (⟨ts, true, 0, []⟩, 0) := by rw [hpo4.out, descEnd, if_neg (by simp), if_neg (by simpa using hbad)]
        replace hpo5 := Lib.hid hpo5
        obtain ⟨hw, hsm⟩ : wd = false ∧ (ts.length : Int) ≤ 20 := by simp at hbad; exact ⟨hbad.1, by omega⟩
        subst hw; go_wp2; rw [Exit.noGoto_ret]; have T5 := (((hR4.out.set0 (.slice A ts.length cp)).set1 true).set2 0).set3 ⟨#[]⟩; refine bodyPost_ret (v := .tuple #[descV (.slice A ts.length cp) true 0 ⟨#[]⟩, .int .i64 0]) (by simp [results, Tryz.results128, go_sem, descV, T5.c0, T5.c1, T5.c2, T5.c3]) rfl ⟨_, by rw [hpo5.out] <;> rfl, ?_, ?_⟩
        ·rw [hpo5.out]
         have hnB : ∀ kk, (Value.slice A ts.length cp).ownBlock = some kk → w.heap.size + 3 ≤ kk := fun kk h => (hO4.out.lt kk h).1; have hnn : (Value.slice A ts.length cp).ownBlock = none ∨ (Value.slice A ts.length cp).ownBlock ≠ some w.heap.size := .inr (by intro e; have := hnB _ e; omega)
         exact own_mono ((((hO4.out.kept (gb_set _ _ _ _) hnn).kept (gb_set _ _ _ _) hnn).kept (gb_set _ _ _ _) hnn).kept (gb_set _ _ _ _) hnn) (by omega)
        ·have B0 := hB4.out
         repeat' (first | assumption | apply Below.setCell | apply Below.alloc | apply Below.drew)
         all_goals (first | omega | (simp; done) | (simp; omega))
end Go.Proofs.YtaipkdglhfhhiaaGreatDoor.Ty

namespace Go.Proofs.YtaipkdglhfhhiaaGreatDoor.Ty
open Go Go.RowKit Go.Proofs.YtaipkdglhfhhiaaGreatDoor.Nm
set_option linter.unusedVariables false
set_option linter.unusedSimpArgs false
set_option maxHeartbeats 1000000
set_option maxRecDepth 10000
theorem args_any (l : List UInt8) (w : World) (hm : ML w) : Calls Tryz.prog 152 #[.string (bs l)] w fun e w' =>
  e = .returned (.tuple #[.int .i64 (parseD l).1.args.length, .int .i64 (parseD l).2]) ∧ Below w.heap.size w w' := by
 have P := Lib.hid (parsedesc_any l w hm); go_enter Tryz.func152, Tryz.ntmps152; go_wp2_with fail; refine P.out.mono ?_; rintro e w3 ⟨v, rfl, hown, hB⟩
 obtain ⟨n, hn⟩ : ∃ n, n = (parseD l).1.args.length := ⟨_, rfl⟩
 rw [← hn] at hown; replace hn := Lib.hid hn; obtain ⟨A, cp, rfl⟩ := own_shape hown; replace hown := Lib.hid hown; have hs := hB.size; replace hB := Lib.hid hB; clear P; rw [descV]; go_wp2; go_ret2; refine ⟨by rw [← hn.out]; rfl, ?_⟩; have B0 := hB.out
 repeat' (first | assumption | apply Below.setCell | apply Below.alloc | apply Below.drew)
 all_goals (first | omega | (simp; done) | (simp; omega))
end Go.Proofs.YtaipkdglhfhhiaaGreatDoor.Ty

namespace Go.Proofs.YtaipkdglhfhhiaaGreatDoor.Ty
open Go Go.RowKit Go.Proofs.YtaipkdglhfhhiaaGreatDoor.Nm
set_option linter.unusedVariables false
set_option linter.unusedSimpArgs false
set_option maxHeartbeats 1000000
set_option maxRecDepth 10000
def chk (d : Int) (nm : List UInt8) : Int := if d < 0 ∨ 255 < d then 1 else if nm ≠ [] ∧ validB (bs nm) = false then 1 else 0
end Go.Proofs.YtaipkdglhfhhiaaGreatDoor.Ty

namespace Go.Proofs.YtaipkdglhfhhiaaGreatDoor.Ty
open Go Go.RowKit Go.Proofs.YtaipkdglhfhhiaaGreatDoor.Nm
set_option linter.unusedVariables false
set_option linter.unusedSimpArgs false
set_option maxHeartbeats 1000000
set_option maxRecDepth 10000
theorem same_any (d1 d2 : Int) (n1 n2 : List UInt8) (w : World) : Calls Tryz.prog 35 #[tyV d1 n1, tyV d2 n2] w fun e w' =>
  e = .returned (.bool (decide (d1 = d2 ∧ n1 = n2))) ∧ Below w.heap.size w w' := by
 have hn : (bs n1).toList = (bs n2).toList ↔ n1 = n2 := by
  rw [ByteArray.toList_eq, ByteArray.toList_eq, mk_toList, mk_toList]
 have B0 := Below.refl w.heap.size w; replace hn := Lib.hid hn; rw [tyV, tyV]; generalize bs n1 = s1 at *; generalize bs n2 = s2 at *; go_enter Tryz.func35, Tryz.ntmps35; go_wp2
 all_goals
  go_ret; refine ⟨ret_bool ?_, ?_⟩
  ·have h := hn.out
   rw [Bool.eq_iff_iff]
   simp_all
  ·repeat' (first | assumption | apply Below.setCell | apply Below.alloc | apply Below.drew)
   all_goals (first | omega | (simp; done) | (simp; omega))
end Go.Proofs.YtaipkdglhfhhiaaGreatDoor.Ty

namespace Go.Proofs.YtaipkdglhfhhiaaGreatDoor.Pt
open Go Go.RowKit Go.Proofs.YtaipkdglhfhhiaaGreatDoor.Nm Go.Proofs.YtaipkdglhfhhiaaGreatDoor.Ty Go.Proofs.YtaipkdglhfhhiaaGreatDoorW.PrintWords Go.Proofs.YtaipkdglhfhhiaaGreatDoorW.PrintLast Go.Proofs.YtaipkdglhfhhiaaGreatDoorW.PrintMore
set_option linter.unusedVariables false
set_option linter.unusedSimpArgs false
def tup3 (p : Int × List UInt8 × Int) : Int × ByteArray × Int := (p.1, bs p.2.1, p.2.2)
theorem len_data (s : ByteArray) : s.data.toList.length = s.size := by rw [Array.length_toList]; rfl
theorem some_inj3 {a b c : Type} {p : a × b × c} {x : a} {y : b} {z : c} (h : some p = some (x, y, z)) : p.1 = x ∧ p.2.1 = y ∧ p.2.2 = z := by cases h; exact ⟨rfl, rfl, rfl⟩
theorem some_inj2 {a b : Type} {p : a × b} {x : a} {y : b} (h : some p = some (x, y)) : p.1 = x ∧ p.2 = y := by cases h; exact ⟨rfl, rfl⟩
theorem if_some {c : Prop} [Decidable c] {α : Type} {x y : α} (h : (if c then some x else none) = some y) : c ∧ some x = some y := by
 split at h
 ·exact ⟨by assumption, h⟩
 ·cases h
def types_Parse.f (a0 : ByteArray) : Option (Int × ByteArray × Int) := some (tup3 (parseT a0.data.toList))
theorem types_Parse.calls (a0 : ByteArray) (r1 : Int) (r2 : ByteArray) (r3 : Int) (w : World) (h : types_Parse.f a0 = some (r1, r2, r3)) :
  Calls Tryz.prog 176 #[.string a0] w fun e w' => e = .returned (.tuple #[.agg #[.int .i64 r1, .string r2], .int .i64 r3]) ∧ Below w.heap.size w w' := by
 unfold types_Parse.f at h; obtain ⟨rfl, rfl, rfl⟩ := some_inj3 h; have C := parse_any a0.data.toList w trivial; rw [mk_data] at C
 exact C
def types_ParseRef.f (a0 : ByteArray) : Option (Int × ByteArray × Int) := some (tup3 (parseR a0.data.toList))
theorem types_ParseRef.calls (a0 : ByteArray) (r1 : Int) (r2 : ByteArray) (r3 : Int) (w : World) (h : types_ParseRef.f a0 = some (r1, r2, r3)) :
  Calls Tryz.prog 175 #[.string a0] w fun e w' => e = .returned (.tuple #[.agg #[.int .i64 r1, .string r2], .int .i64 r3]) ∧ Below w.heap.size w w' := by
 unfold types_ParseRef.f at h; obtain ⟨rfl, rfl, rfl⟩ := some_inj3 h; have C := parseref_any a0.data.toList w trivial; rw [mk_data] at C
 exact C
def types_Check.f (a0_0 : Int) (a0_1 : ByteArray) : Option Int := some (chk a0_0 a0_1.data.toList)
def arbiterref02_Same.f (a0_0 : Int) (a0_1 : ByteArray) (a1_0 : Int) (a1_1 : ByteArray) : Option Bool := some (decide (a0_0 = a1_0 ∧ a0_1.data.toList = a1_1.data.toList))
def toS (p : Nat × List UInt8) : S24 := ⟨p.1, bs p.2⟩
theorem reps_ty {w : World} {base : Nat} {ok : Nat → Prop} (ts : List (Nat × List UInt8)) : Reps (k24.M w base ok) 2 (ts.map toS) (tyCells ts) := by
 refine ⟨?_, fun j p hj => ?_⟩
 ·induction ts with
  | nil => rfl
  | cons a ts ih => simp only [tyCells, List.flatMap_cons, List.length_append, List.map_cons, List.length_cons, List.length_nil] at ih ⊢; omega
 ·rw [List.getElem?_map] at hj
  obtain ⟨a, ha, rfl⟩ := Option.map_eq_some_iff.1 hj
  have e : ((tyCells ts).drop (j * 2)).take 2 = [.int .i64 (a.1 : Int), .string (bs a.2)] := by
   clear hj
   induction ts generalizing j with
   | nil => simp at ha
   | cons b ts ih =>
    cases j with
    | zero => simp at ha; subst ha; simp [tyCells]
    | succ j =>
     simp at ha; have := ih j ha; rw [show (j + 1) * 2 = j * 2 + 2 from by omega]
     simpa [tyCells] using this
  rw [e]
  exact k24_mkM w base ok (toS a)
theorem own_R {w' : World} {base : Nat} {v : Value} {ts : List (Nat × List UInt8)} (h : w'.ownsRow base 24 2 v ts.length (tyCells ts)) : Kd.R k24 24 w' base (fun _ => True) v (ts.map toS) :=
 ⟨fun _ _ => trivial, tyCells ts, by rw [List.length_map]; exact h, reps_ty ts⟩
def tup5 (p : DescR × Int) : (List S24) × Bool × Int × ByteArray × Int := (p.1.args.map toS, p.1.void, p.1.rdims, bs p.1.rname, p.2)
def types_ParseDesc.f (a0 : ByteArray) : Option ((List S24) × Bool × Int × ByteArray × Int) := some (tup5 (parseD a0.data.toList))
theorem types_ParseDesc.calls (a0 : ByteArray) (r1 : List S24) (r2 : Bool) (r3 : Int) (r4 : ByteArray) (r5 : Int) (w : World) (h : types_ParseDesc.f a0 = some (r1, r2, r3, r4, r5)) :
  Calls Tryz.prog 128 #[.string a0] w fun e w' => ∃ v0_ : Value, e = .returned (.tuple #[.agg #[v0_, .bool r2, .int .i64 r3, .string r4], .int .i64 r5]) ∧ Kd.R k24 24 w' w.heap.size (fun _ => True) v0_ r1 ∧ Below w.heap.size w w' := by
 unfold types_ParseDesc.f at h; have h1 : tup5 (parseD a0.data.toList) = (r1, r2, r3, r4, r5) := Option.some.inj h; simp only [tup5, Prod.mk.injEq] at h1; obtain ⟨rfl, rfl, rfl, rfl, rfl⟩ := h1; have C := parsedesc_any a0.data.toList w trivial; rw [mk_data] at C; refine C.mono ?_; rintro e w' ⟨v, rfl, hown, hB⟩
 exact ⟨v, rfl, own_R hown, hB⟩
def types_Args.f (a0 : ByteArray) : Option (Int × Int) := some (((parseD a0.data.toList).1.args.length : Int), (parseD a0.data.toList).2)
theorem types_Args.calls (a0 : ByteArray) (r1 : Int) (r2 : Int) (w : World) (h : types_Args.f a0 = some (r1, r2)) :
  Calls Tryz.prog 152 #[.string a0] w fun e w' => e = .returned (.tuple #[.int .i64 r1, .int .i64 r2]) ∧ Below w.heap.size w w' := by
 unfold types_Args.f at h; obtain ⟨rfl, rfl⟩ := some_inj2 h; have C := args_any a0.data.toList w trivial; rw [mk_data] at C
 exact C
def names_Valid.f (a0 : ByteArray) : Option Bool := some (validB a0)
theorem names_Valid.calls (a0 : ByteArray) (r : Bool) (w : World) (h : names_Valid.f a0 = some r) :
  Calls Tryz.prog 107 #[.string a0] w fun e w' => e = .returned (.bool r) ∧ Below w.heap.size w w' := by
 unfold names_Valid.f at h; obtain rfl := Option.some.inj h
 exact valid_any a0 w trivial
end Go.Proofs.YtaipkdglhfhhiaaGreatDoor.Pt

namespace Go.Proofs.YtaipkdglhfhhiaaGreatDoor.Pt
open Go Go.RowKit Go.Proofs.YtaipkdglhfhhiaaGreatDoorW.PrintWords Go.Proofs.YtaipkdglhfhhiaaGreatDoorW.PrintLast Go.Proofs.YtaipkdglhfhhiaaGreatDoorW.PrintMore
set_option linter.unusedVariables false
set_option linter.unusedSimpArgs false
set_option maxHeartbeats 1000000
def sameM (x : S105) (nm ds : ByteArray) : Bool := (x.f0.toList == nm.toList) && (x.f1.toList == ds.toList)
def findM : Nat → List S105 → ByteArray → ByteArray → Int
 | _, [], _, _ => -1
 | i, x :: r, nm, ds => if sameM x nm ds then i else findM (i + 1) r nm ds
theorem findM_step (l : List S105) (k : Nat) (hk : k < l.length) (nm ds : ByteArray) : findM k (l.drop k) nm ds = if sameM (rd_T105 l k) nm ds then (k : Int) else findM (k + 1) (l.drop (k + 1)) nm ds := by
 have e : l.drop k = (rd_T105 l k) :: l.drop (k + 1) := by
  rw [List.drop_eq_getElem_cons hk]
  congr 1
  simp [rd_T105, List.getD_eq_getElem?_getD, List.getElem?_eq_getElem hk]
 rw [e, findM]
theorem findM_end (l : List S105) (k : Nat) (hk : l.length ≤ k) (nm ds : ByteArray) : findM k (l.drop k) nm ds = -1 := by rw [List.drop_eq_nil_of_le hk]; rfl
theorem find1_any (x : S105) (A5 : Option Addr) (n5 c5 : Nat) (b1 b2 : Nat) (nm ds : ByteArray) (w : World) (h1 : w.cell? ⟨b1, 0, none⟩ = some (.string nm)) (h2 : w.cell? ⟨b2, 0, none⟩ = some (.string ds)) :
  Calls Tryz.prog 134 #[.agg #[.string x.f0, .string x.f1, .int .i64 x.f2, .int .i64 x.f3, .int .i64 x.f4, .slice A5 n5 c5], .pointer (some ⟨b1, 0, none⟩), .pointer (some ⟨b2, 0, none⟩)] w fun e w' => e = .returned (.bool (sameM x nm ds)) ∧ Below w.heap.size w w' := by
 have k1 : (w.alloc (.cells #[.string x.f0, .string x.f1, .int .i64 x.f2, .int .i64 x.f3, .int .i64 x.f4, .slice A5 n5 c5] 105)).cell? ⟨b1, 0, none⟩ = some (.string nm) := bl_cell ((Below.refl _ _).alloc (Nat.le_refl _) _) h1; have k2 : (w.alloc (.cells #[.string x.f0, .string x.f1, .int .i64 x.f2, .int .i64 x.f3, .int .i64 x.f4, .slice A5 n5 c5] 105)).cell? ⟨b2, 0, none⟩ = some (.string ds) := bl_cell ((Below.refl _ _).alloc (Nat.le_refl _) _) h2; have hs : sameM x nm ds = ((x.f0.toList == nm.toList) && (x.f1.toList == ds.toList)) := rfl; clear h1 h2
 cases e1 : (x.f0.toList == nm.toList)
 ·rw [e1, Bool.false_and] at hs
  replace hs := Lib.hid hs; go_enter Tryz.func134, Tryz.ntmps134; go_wp2; go_ret
  exact ⟨by rw [hs.out]; rfl, (Below.refl _ _).alloc (Nat.le_refl _) _⟩
 ·rw [e1, Bool.true_and] at hs
  replace hs := Lib.hid hs; go_enter Tryz.func134, Tryz.ntmps134; go_wp2; go_ret
  exact ⟨by rw [hs.out]; rfl, (Below.refl _ _).alloc (Nat.le_refl _) _⟩
theorem indexM_any (l : List S105) (hl : l.length ≤ 4611686018427387904) (A : Option Addr) (c : Nat) (b1 b2 : Nat) (nm ds : ByteArray) (w : World) (hr : Kd.C k105 w A l.length l) (h1 : w.cell? ⟨b1, 0, none⟩ = some (.string nm)) (h2 : w.cell? ⟨b2, 0, none⟩ = some (.string ds)) :
  Calls Tryz.prog 133 #[.slice A l.length c, .func (.func 134) #[] #[.pointer (some ⟨b1, 0, none⟩), .pointer (some ⟨b2, 0, none⟩)]] w fun e w' => e = .returned (.int .i64 (findM 0 l nm ds)) ∧ Below w.heap.size w w' := by
 replace hr := Lib.hid hr; replace h1 := Lib.hid h1; replace h2 := Lib.hid h2; have hfin : Hid (∀ n : Int, n = findM 0 l nm ds → Ending.returned (.int .i64 n) = .returned (.int .i64 (findM 0 l nm ds))) := Lib.hid (fun n h => by rw [h]); go_enter Tryz.func133, Tryz.ntmps133; go_wp2
 go_loopw [8] (fun i wr => ∃ k : Nat, k ≤ l.length ∧ i = .int .i64 k ∧ Hid (findM 0 l nm ds = findM k (l.drop k) nm ds) ∧ Hid (Below w.heap.size w wr)) (fun i _ => l.length - (intOf i).toNat)
 case atStart => exact ⟨0, Nat.zero_le _, rfl, Lib.hid rfl, Lib.hid (Below.refl _ _)⟩
 case round =>
  obtain ⟨k, hk, rfl, hp, hB⟩ := hrel
  by_cases hlt : k < l.length
  ·have hst := findM_step l k hlt nm ds
   rw [← hp.out] at hst; obtain ⟨ad, A5, c5, rfl, q0, q1, q2, q3, q4, q5, _⟩ := at_T105 (Kd.C_below hr.out hB.out) (k : Int) (by omega) (by omega); rw [Int.toNat_natCast] at q0 q1 q2 q3 q4 q5; have V := Lib.hid (find1_any (rd_T105 l k) A5 (rd_T105 l k).f5.length c5 b1 b2 nm ds wr (bl_cell hB.out h1.out) (bl_cell hB.out h2.out))
   cases hm : sameM (rd_T105 l k) nm ds
   all_goals
    rw [hm] at hst V; replace hst := Lib.hid hst; generalize (rd_T105 l k).f5.length = n5 at *; go_wp2_with (go_at_call 134; refine V.out.mono ?_; rintro e w1 ⟨rfl, hb⟩; replace hb := Lib.hid hb)
   ·go_roundw
    case rel => exact ⟨k + 1, by omega, by go_num, Lib.hid (by rw [hst.out]; rfl), Lib.hid (hB.out.trans (hb.out.mono hB.out.size))⟩
    case measure => simp [intOf]; omega
   ·go_ret
    exact ⟨hfin.out _ (by rw [hst.out]; rfl), hB.out.trans (hb.out.mono hB.out.size)⟩
  ·have he := findM_end l k (by omega) nm ds
   rw [← hp.out] at he; replace he := Lib.hid he; go_wp2; go_ret
   exact ⟨hfin.out _ (by rw [he.out]), hB.out⟩
end Go.Proofs.YtaipkdglhfhhiaaGreatDoor.Pt

namespace Go.Proofs.YtaipkdglhfhhiaaGreatDoor.Cd
open Go Go.RowKit Go.Proofs.YtaipkdglhfhhiaaGreatDoorW.PrintWords Go.Proofs.YtaipkdglhfhhiaaGreatDoorW.PrintMore
set_option linter.unusedVariables false
set_option linter.unusedSimpArgs false
set_option maxHeartbeats 1000000
set_option maxRecDepth 100000
def opTab : List Int := [0, 1, 2, 2, 2, 2, 0, 0, 0, 0, 0, 3, 3, 3, 3, 3, 3, 3, 3, 0, 0, 0, 4, 6, 7, 0, 0, 0, 0, 0, 5, 5, 8, 8, 8, 8, 0, 0, 0, 0, 0]
def wordTab : List ByteArray := [⟨#[]⟩, ⟨#[105, 99, 111, 110, 115, 116]⟩, ⟨#[105, 108, 111, 97, 100]⟩, ⟨#[105, 115, 116, 111, 114, 101]⟩, ⟨#[97, 108, 111, 97, 100]⟩, ⟨#[97, 115, 116, 111, 114, 101]⟩, ⟨#[110, 117, 108, 108]⟩, ⟨#[105, 97, 100, 100]⟩, ⟨#[105, 115, 117, 98]⟩, ⟨#[105, 109, 117, 108]⟩, ⟨#[105, 100, 105, 118]⟩, ⟨#[103, 111, 116, 111]⟩, ⟨#[105, 102, 101, 113]⟩, ⟨#[105, 102, 110, 101]⟩, ⟨#[105, 102, 108, 116]⟩, ⟨#[105, 102, 99, 109, 112, 101, 113]⟩, ⟨#[105, 102, 99, 109, 112, 108, 116]⟩, ⟨#[105, 102, 97, 99, 109, 112, 101, 113]⟩, ⟨#[105, 102, 110, 117, 108, 108]⟩, ⟨#[112, 111, 112]⟩, ⟨#[100, 117, 112]⟩, ⟨#[115, 119, 97, 112]⟩, ⟨#[110, 101, 119]⟩, ⟨#[110, 101, 119, 97, 114, 114, 97, 121]⟩, ⟨#[109, 117, 108, 116, 105, 110, 101, 119]⟩, ⟨#[97, 114, 114, 97, 121, 108, 101, 110, 103, 116, 104]⟩, ⟨#[105, 97, 108, 111, 97, 100]⟩, ⟨#[105, 97, 115, 116, 111, 114, 101]⟩, ⟨#[97, 97, 108, 111, 97, 100]⟩, ⟨#[97, 97, 115, 116, 111, 114, 101]⟩, ⟨#[99, 104, 101, 99, 107, 99, 97, 115, 116]⟩, ⟨#[105, 110, 115, 116, 97, 110, 99, 101, 111, 102]⟩, ⟨#[105, 110, 118, 111, 107, 101, 118, 105, 114, 116, 117, 97, 108]⟩, ⟨#[105, 110, 118, 111, 107, 101, 105, 110, 116, 101, 114, 102, 97, 99, 101]⟩, ⟨#[105, 110, 118, 111, 107, 101, 115, 112, 101, 99, 105, 97, 108]⟩, ⟨#[105, 110, 118, 111, 107, 101, 115, 116, 97, 116, 105, 99]⟩, ⟨#[105, 114, 101, 116, 117, 114, 110]⟩, ⟨#[97, 114, 101, 116, 117, 114, 110]⟩, ⟨#[114, 101, 116, 117, 114, 110]⟩, ⟨#[112, 114, 105, 110, 116]⟩, ⟨#[112, 114, 105, 110, 116, 99, 108, 97, 115, 115]⟩]
def specsC : Array Value := #[.string ⟨#[]⟩, .int .i64 0, .string ⟨#[105, 99, 111, 110, 115, 116]⟩, .int .i64 1, .string ⟨#[105, 108, 111, 97, 100]⟩, .int .i64 2, .string ⟨#[105, 115, 116, 111, 114, 101]⟩, .int .i64 2, .string ⟨#[97, 108, 111, 97, 100]⟩, .int .i64 2, .string ⟨#[97, 115, 116, 111, 114, 101]⟩, .int .i64 2, .string ⟨#[110, 117, 108, 108]⟩, .int .i64 0, .string ⟨#[105, 97, 100, 100]⟩, .int .i64 0, .string ⟨#[105, 115, 117, 98]⟩, .int .i64 0, .string ⟨#[105, 109, 117, 108]⟩, .int .i64 0, .string ⟨#[105, 100, 105, 118]⟩, .int .i64 0, .string ⟨#[103, 111, 116, 111]⟩, .int .i64 3, .string ⟨#[105, 102, 101, 113]⟩, .int .i64 3, .string ⟨#[105, 102, 110, 101]⟩, .int .i64 3, .string ⟨#[105, 102, 108, 116]⟩, .int .i64 3, .string ⟨#[105, 102, 99, 109, 112, 101, 113]⟩, .int .i64 3, .string ⟨#[105, 102, 99, 109, 112, 108, 116]⟩, .int .i64 3, .string ⟨#[105, 102, 97, 99, 109, 112, 101, 113]⟩, .int .i64 3, .string ⟨#[105, 102, 110, 117, 108, 108]⟩, .int .i64 3, .string ⟨#[112, 111, 112]⟩, .int .i64 0, .string ⟨#[100, 117, 112]⟩, .int .i64 0, .string ⟨#[115, 119, 97, 112]⟩, .int .i64 0, .string ⟨#[110, 101, 119]⟩, .int .i64 4, .string ⟨#[110, 101, 119, 97, 114, 114, 97, 121]⟩, .int .i64 6, .string ⟨#[109, 117, 108, 116, 105, 110, 101, 119]⟩, .int .i64 7, .string ⟨#[97, 114, 114, 97, 121, 108, 101, 110, 103, 116, 104]⟩, .int .i64 0, .string ⟨#[105, 97, 108, 111, 97, 100]⟩, .int .i64 0, .string ⟨#[105, 97, 115, 116, 111, 114, 101]⟩, .int .i64 0, .string ⟨#[97, 97, 108, 111, 97, 100]⟩, .int .i64 0, .string ⟨#[97, 97, 115, 116, 111, 114, 101]⟩, .int .i64 0, .string ⟨#[99, 104, 101, 99, 107, 99, 97, 115, 116]⟩, .int .i64 5, .string ⟨#[105, 110, 115, 116, 97, 110, 99, 101, 111, 102]⟩, .int .i64 5, .string ⟨#[105, 110, 118, 111, 107, 101, 118, 105, 114, 116, 117, 97, 108]⟩, .int .i64 8, .string ⟨#[105, 110, 118, 111, 107, 101, 105, 110, 116, 101, 114, 102, 97, 99, 101]⟩, .int .i64 8, .string ⟨#[105, 110, 118, 111, 107, 101, 115, 112, 101, 99, 105, 97, 108]⟩, .int .i64 8, .string ⟨#[105, 110, 118, 111, 107, 101, 115, 116, 97, 116, 105, 99]⟩, .int .i64 8, .string ⟨#[105, 114, 101, 116, 117, 114, 110]⟩, .int .i64 0, .string ⟨#[97, 114, 101, 116, 117, 114, 110]⟩, .int .i64 0, .string ⟨#[114, 101, 116, 117, 114, 110]⟩, .int .i64 0, .string ⟨#[112, 114, 105, 110, 116]⟩, .int .i64 0, .string ⟨#[112, 114, 105, 110, 116, 99, 108, 97, 115, 115]⟩, .int .i64 0]
def specsV : Value := .agg specsC
theorem specs_any (w : World) : Calls Tryz.prog 165 #[] w fun e w' => e = .returned specsV ∧ Below w.heap.size w w' := by
 have hz := Lib.hid (show (Tryz.zeroCells204).size = specsC.size by kernel_rfl); have hi := Lib.hid (show (Tryz.prog.info? 204).map (·.size) = some specsC.size by kernel_rfl); have h1 := Lib.hid (show specsC.all (·.oneCell') = true by kernel_rfl); go_enter Tryz.func165, Tryz.ntmps165; go_wp2_with ((with_reducible refine gate_store (t := 204) (p := 0) rfl ?_); refine wpList_store_row rfl _ _ _ rfl w.heap.size specsC ?hx ?hy 204 Tryz.zeroCells204 ?hg hi.out hz.out h1.out ?_; (case hx => go_simp); (case hy => show _ = _; kernel_rfl); (case hg => exact heap_alloc_new w _)); refine bodyPost_ret (v := specsV) (results_cell_row rfl _ _ w.heap.size 204 specsC (0, 0) _ rfl ?_ Tryz.underlying204 rfl hi.out) rfl ⟨rfl, ?_⟩
 ·exact setRow_heap _ _ _ _ _ _ (heap_alloc_new w _)
 ·refine ⟨rfl, rfl, rfl, by rw [size_setRow]; simp, fun j hj => ?_⟩
  rw [setRow_other _ _ _ _ (by omega)]
  exact (World.grownBy_alloc w _ none).block j hj (by simp)
end Go.Proofs.YtaipkdglhfhhiaaGreatDoor.Cd

namespace Go.Proofs.YtaipkdglhfhhiaaGreatDoor.Cd
open Go Go.RowKit
set_option linter.unusedVariables false
set_option linter.unusedSimpArgs false
set_option maxHeartbeats 1000000
set_option maxRecDepth 100000
def opnd (op : Int) : Int := if op < 1 ∨ 40 < op then -1 else opTab.getD op.toNat 0
theorem index_specs (k : Nat) (hk : k < 41) (w : World) : (Instr.index 204 specsV (.int .i64 (k : Int))).run Tryz.prog w = .ok (.agg #[.string (wordTab.getD k ⟨#[]⟩), .int .i64 (opTab.getD k 0)]) w := by
 have h : k = 0 ∨ k = 1 ∨ k = 2 ∨ k = 3 ∨ k = 4 ∨ k = 5 ∨ k = 6 ∨ k = 7 ∨ k = 8 ∨ k = 9 ∨ k = 10 ∨ k = 11 ∨ k = 12 ∨ k = 13 ∨ k = 14 ∨ k = 15 ∨ k = 16 ∨ k = 17 ∨ k = 18 ∨ k = 19 ∨ k = 20 ∨ k = 21 ∨ k = 22 ∨ k = 23 ∨ k = 24 ∨ k = 25 ∨ k = 26 ∨ k = 27 ∨ k = 28 ∨ k = 29 ∨ k = 30 ∨ k = 31 ∨ k = 32 ∨ k = 33 ∨ k = 34 ∨ k = 35 ∨ k = 36 ∨ k = 37 ∨ k = 38 ∨ k = 39 ∨ k = 40 := by omega
 rcases h with rfl | rfl | rfl | rfl | rfl | rfl | rfl | rfl | rfl | rfl | rfl | rfl | rfl | rfl | rfl | rfl | rfl | rfl | rfl | rfl | rfl | rfl | rfl | rfl | rfl | rfl | rfl | rfl | rfl | rfl | rfl | rfl | rfl | rfl | rfl | rfl | rfl | rfl | rfl | rfl | rfl
 all_goals (show _ = _; kernel_rfl)
theorem known_any (op : Int) (w : World) : Calls Tryz.prog 164 #[.int .i64 op] w fun e w' => e = .returned (.bool (decide (1 ≤ op ∧ op ≤ 40))) ∧ Below w.heap.size w w' := by
 by_cases h1 : 1 ≤ op
 ·have hd : decide (1 ≤ op) = true := decide_eq_true h1
  have hge : decide (op ≥ 1) = true := decide_eq_true h1; have hl := Lib.hid (show decide (op < 41) = decide (1 ≤ op ∧ op ≤ 40) from decide_eq_decide.2 (by omega)); go_enter Tryz.func164, Tryz.ntmps164; go_wp2_with (go_at_call 165; refine (specs_any _).mono ?_; rintro e w1 ⟨rfl, hb⟩; replace hb := Lib.hid hb); go_ret; refine ⟨?_, hb.out⟩; rw [← hl.out]
  rfl
 ·have hd : decide (1 ≤ op) = false := decide_eq_false h1
  have hge : decide (op ≥ 1) = false := decide_eq_false h1; have hl := Lib.hid (show false = decide (1 ≤ op ∧ op ≤ 40) from (decide_eq_false (by omega)).symm); go_enter Tryz.func164, Tryz.ntmps164; go_wp2; go_ret
  exact ⟨rfl, Below.refl _ _⟩
theorem operand_any (op : Int) (w : World) : Calls Tryz.prog 154 #[.int .i64 op] w fun e w' => e = .returned (.int .i64 (opnd op)) ∧ Below w.heap.size w w' := by
 have K := Lib.hid (known_any op w)
 by_cases h : 1 ≤ op ∧ op ≤ 40
 ·obtain ⟨k, rfl⟩ : ∃ k : Nat, op = k := ⟨op.toNat, by omega⟩
  have hk := Lib.hid (show opTab.getD k 0 = opnd k by unfold opnd; rw [if_neg (by omega), Int.toNat_natCast]); have I := fun w => index_specs k (by omega) w
  have F : ∀ (s : ByteArray) (v : Int) (w : World), (Instr.field 203 (.agg #[.string s, .int .i64 v]) 1).run Tryz.prog w = .ok (.int .i64 v) w := fun s v w => by rfl
  rw [decide_eq_true h] at K; clear h; go_enter Tryz.func154, Tryz.ntmps154; go_wp2_with (first | (go_at_call 164; refine K.out.mono ?_; rintro e w1 ⟨rfl, hb⟩; replace hb := Lib.hid hb) | (go_at_call 165; refine (specs_any _).mono ?_; rintro e w2 ⟨rfl, hb2⟩; replace hb2 := Lib.hid hb2)); go_ret
  exact ⟨by rw [← hk.out]; rfl, hb.out.trans (hb2.out.mono hb.out.size)⟩
 ·have hk := Lib.hid (show -1 = opnd op by unfold opnd; rw [if_pos (by omega)])
  rw [decide_eq_false h] at K; clear h; go_enter Tryz.func154, Tryz.ntmps154; go_wp2_with (go_at_call 164; refine K.out.mono ?_; rintro e w1 ⟨rfl, hb⟩; replace hb := Lib.hid hb); go_ret
  exact ⟨by rw [← hk.out]; rfl, hb.out⟩
end Go.Proofs.YtaipkdglhfhhiaaGreatDoor.Cd

namespace Go.Proofs.YtaipkdglhfhhiaaGreatDoor.Pt
open Go Go.RowKit Go.Proofs.YtaipkdglhfhhiaaGreatDoor.Nm Go.Proofs.YtaipkdglhfhhiaaGreatDoor.Ty Go.Proofs.YtaipkdglhfhhiaaGreatDoorW.PrintWords Go.Proofs.YtaipkdglhfhhiaaGreatDoorW.PrintLast Go.Proofs.YtaipkdglhfhhiaaGreatDoorW.PrintMore
set_option linter.unusedVariables false
set_option linter.unusedSimpArgs false
def names_Member.f (a0 : ByteArray) : Option Bool := some (memberB a0)
theorem names_Member.calls (a0 : ByteArray) (r : Bool) (w : World) (h : names_Member.f a0 = some r) :
  Calls Tryz.prog 129 #[.string a0] w fun e w' => e = .returned (.bool r) ∧ Below w.heap.size w w' := by
 unfold names_Member.f at h; obtain rfl := Option.some.inj h; refine (member_any a0 w).mono ?_; rintro e w' ⟨rfl, rfl⟩
 exact ⟨rfl, Below.refl _ _⟩
def code_Operand.f (a0 : Int) : Option Int := some (Cd.opnd a0)
def shapes_Find.f (a0_0 : ByteArray) (a0_1 : ByteArray) (l0_2 : List ByteArray) (a0_3 : Int) (a0_4 : Int) (l0_5 : List (S105)) (a1 : ByteArray) (a2 : ByteArray) : Option Int := if l0_5.length ≤ 4611686018427387904 then some (findM 0 l0_5 a1 a2) else none
theorem shapes_Find.calls (a0_0 : ByteArray) (a0_1 : ByteArray) (A0_2 : Option Addr) (c0_2 : Nat) (l0_2 : List ByteArray) (a0_3 : Int) (a0_4 : Int) (A0_5 : Option Addr) (c0_5 : Nat) (l0_5 : List (S105)) (a1 : ByteArray) (a2 : ByteArray) (r : Int) (w : World) (hr0_2 : Kd.C Kd.string w A0_2 l0_2.length l0_2) (hc0_2 : l0_2.length ≤ c0_2) (hr0_5 : Kd.C k105 w A0_5 l0_5.length l0_5) (hc0_5 : l0_5.length ≤ c0_5) (h : shapes_Find.f a0_0 a0_1 l0_2 a0_3 a0_4 l0_5 a1 a2 = some r) :
  Calls Tryz.prog 112 #[.agg #[.string a0_0, .string a0_1, .slice A0_2 l0_2.length c0_2, .int .i64 a0_3, .int .i64 a0_4, .slice A0_5 l0_5.length c0_5], .string a1, .string a2] w fun e w' => e = .returned (.int .i64 r) ∧ Below w.heap.size w w' := by
 unfold shapes_Find.f at h; obtain ⟨hl, h⟩ := if_some h; obtain rfl := Option.some.inj h; have W1 : Below w.heap.size w (((w.alloc (.cells #[.string a0_0, .string a0_1, .slice A0_2 l0_2.length c0_2, .int .i64 a0_3, .int .i64 a0_4, .slice A0_5 l0_5.length c0_5] 85)).alloc (.cells #[.string a1] 9)).alloc (.cells #[.string a2] 9)) := (((Below.refl _ _).alloc (Nat.le_refl _) _).alloc (by simp) _).alloc (by simp; omega) _
 have q1 : (((w.alloc (.cells #[.string a0_0, .string a0_1, .slice A0_2 l0_2.length c0_2, .int .i64 a0_3, .int .i64 a0_4, .slice A0_5 l0_5.length c0_5] 85)).alloc (.cells #[.string a1] 9)).alloc (.cells #[.string a2] 9)).cell? ⟨w.heap.size + 1, 0, none⟩ = some (.string a1) := by
  have h1 := cell_new (w.alloc (.cells #[.string a0_0, .string a0_1, .slice A0_2 l0_2.length c0_2, .int .i64 a0_3, .int .i64 a0_4, .slice A0_5 l0_5.length c0_5] 85)) #[.string a1] 9 0; rw [show ∀ o, (w.alloc o).heap.size = w.heap.size + 1 from fun o => by simp] at h1
  exact bl_cell ((Below.refl _ _).alloc (Nat.le_refl _) _) h1
 have q2 : (((w.alloc (.cells #[.string a0_0, .string a0_1, .slice A0_2 l0_2.length c0_2, .int .i64 a0_3, .int .i64 a0_4, .slice A0_5 l0_5.length c0_5] 85)).alloc (.cells #[.string a1] 9)).alloc (.cells #[.string a2] 9)).cell? ⟨w.heap.size + 1 + 1, 0, none⟩ = some (.string a2) := by
  have h1 := cell_new ((w.alloc (.cells #[.string a0_0, .string a0_1, .slice A0_2 l0_2.length c0_2, .int .i64 a0_3, .int .i64 a0_4, .slice A0_5 l0_5.length c0_5] 85)).alloc (.cells #[.string a1] 9)) #[.string a2] 9 0; rw [show ∀ o p, ((w.alloc o).alloc p).heap.size = w.heap.size + 1 + 1 from fun o p => by simp] at h1
  exact h1
 have I := Lib.hid (indexM_any l0_5 hl A0_5 c0_5 (w.heap.size + 1) (w.heap.size + 1 + 1) a1 a2 _ (Kd.C_below hr0_5 W1) q1 q2); replace W1 := Lib.hid W1; clear q1 q2 hr0_2 hc0_2 hr0_5 hc0_5 hl; go_enter Tryz.func112, Tryz.ntmps112; go_wp2_with (go_at_call 133; refine I.out.mono ?_; rintro e w1 ⟨rfl, hb⟩; replace hb := Lib.hid hb); go_ret
 exact ⟨rfl, W1.out.trans (hb.out.mono W1.out.size)⟩
end Go.Proofs.YtaipkdglhfhhiaaGreatDoor.Pt

namespace Go.Proofs.YtaipkdglhfhhiaaGreatDoor.Hi
open Go Go.RowKit Go.Proofs.YtaipkdglhfhhiaaGreatDoorW.PrintWords Go.Proofs.YtaipkdglhfhhiaaGreatDoorW.PrintLast Go.Proofs.YtaipkdglhfhhiaaGreatDoorW.PrintMore Go.Proofs.YtaipkdglhfhhiaaGreatDoor.Pt
set_option linter.unusedVariables false
set_option linter.unusedSimpArgs false
set_option maxHeartbeats 1000000
def kSl : Kd (Option Addr × Nat × Nat) := Kd.scalar (fun p => Value.slice p.1 p.2.1 p.2.2) (fun _ => rfl)
structure RawM where
 f0 : ByteArray
 f1 : ByteArray
 f2 : Int
 f3 : Int
 f4 : Int
 sl : Option Addr × Nat × Nat
def kRawM : Kd RawM := Kd.iso (Kd.pair Kd.string (Kd.pair Kd.string (Kd.pair (Kd.int .i64) (Kd.pair (Kd.int .i64) (Kd.pair (Kd.int .i64) kSl))))) (fun x : RawM => (x.f0, x.f1, x.f2, x.f3, x.f4, x.sl))
theorem own_empty {α : Type} (d : Kd α) (e : Nat) (w : World) : d.R e (w.alloc (.cells #[] e)) w.heap.size (fun _ => True) (.slice (some ⟨w.heap.size, 0, none⟩) 0 0) [] :=
 ⟨fun _ _ => trivial, [], ⟨by simp, .inr ⟨w.heap.size, 0, #[], rfl, Nat.le_refl _, heap_alloc_new w _, Nat.le_refl _, Nat.zero_le _, by simp, by simp⟩⟩, Reps.none _ _⟩
theorem infoStr : (Tryz.prog.info? 9).map (fun i => (i.zero, i.size, i.bytes)) = some (some (.string ⟨#[]⟩), (Kd.string).sz, 16) := by kernel_rfl
theorem cloneStr (A : Option Addr) (c : Nat) (xs : List ByteArray) (w : World) (hr : Kd.C Kd.string w A xs.length xs) (hl : xs.length * 16 ≤ 140737488355328) :
  Calls Tryz.prog 114 #[.slice A xs.length c] w fun e w' => ∃ v, e = .returned v ∧ Kd.R Kd.string 9 w' w.heap.size (fun _ => True) v xs ∧ Below w.heap.size w w' := by
 have q22 : ∀ (w : World) (a : Option Addr) (n c n' c' : Nat), (binOp .eql 82 (.slice a n c) (.slice none n' c')).run Tryz.prog w = .ok (.bool a.isNone) w := fun w a n c n' c' => Lib.run_eql_slice_nil w _ _ a n c n' c' Tryz.underlying82
 cases A with
 | none =>
  have h0 : xs.length = 0 := by
   rcases Nat.eq_zero_or_pos xs.length with h | h
   ·exact h
   ·obtain ⟨ad, h, _⟩ := hr.2.2 h
    cases h
  obtain rfl := List.eq_nil_of_length_eq_zero h0; clear h0 hr hl; go_enter Tryz.func114, Tryz.ntmps114; go_wp2; go_ret
  exact ⟨_, rfl, Kd.R_nil _ _ _ _ _, Below.refl _ _⟩
 | some ad =>
  have HR := Lib.hid hr; have HL := Lib.hid hl; clear hr hl; go_enter Tryz.func114, Tryz.ntmps114; have HO := Lib.hid (own_empty Kd.string 9 w); have B0 := Lib.hid ((Below.refl w.heap.size w).alloc (Nat.le_refl _) (.cells #[] 9)); have HC := Lib.hid (Kd.C_below HR.out B0.out); go_wp2_with (at_builtin; refine Kd.R_append_rows Kd.string (Rr := (Kd.string).K (w.alloc (.cells #[] 9))) (w0 := w) w.heap.size rfl (.tmp 5) (.tmp 6) 82 9 (.string ⟨#[]⟩) 16 rfl Tryz.underlying82 infoStr rfl (by decide) (by omega) _ [] xs _ xs.length c (fun _ => True) (fun _ => False) rfl rfl HO.out HC.out (fun _ _ h => h) (fun _ h => h.elim) (fun _ _ => trivial) B0.out (by simp) (by have := HL.out; simp only [List.length_nil]; omega) ?_; intro v1 w1 h1 h2 _ _; replace h1 := Lib.hid h1; replace h2 := Lib.hid h2); go_ret
  exact ⟨_, rfl, h1.out, h2.out⟩
theorem infoInt : (Tryz.prog.info? 3).map (fun i => (i.zero, i.size, i.bytes)) = some (some (.int .i64 0), ((Kd.int .i64)).sz, 8) := by kernel_rfl
theorem cloneInt (A : Option Addr) (c : Nat) (xs : List Int) (w : World) (hr : Kd.C (Kd.int .i64) w A xs.length xs) (hl : xs.length * 8 ≤ 140737488355328) :
  Calls Tryz.prog 72 #[.slice A xs.length c] w fun e w' => ∃ v, e = .returned v ∧ Kd.R (Kd.int .i64) 3 w' w.heap.size (fun _ => True) v xs ∧ Below w.heap.size w w' := by
 have q22 : ∀ (w : World) (a : Option Addr) (n c n' c' : Nat), (binOp .eql 49 (.slice a n c) (.slice none n' c')).run Tryz.prog w = .ok (.bool a.isNone) w := fun w a n c n' c' => Lib.run_eql_slice_nil w _ _ a n c n' c' Tryz.underlying49
 cases A with
 | none =>
  have h0 : xs.length = 0 := by
   rcases Nat.eq_zero_or_pos xs.length with h | h
   ·exact h
   ·obtain ⟨ad, h, _⟩ := hr.2.2 h
    cases h
  obtain rfl := List.eq_nil_of_length_eq_zero h0; clear h0 hr hl; go_enter Tryz.func72, Tryz.ntmps72; go_wp2; go_ret
  exact ⟨_, rfl, Kd.R_nil _ _ _ _ _, Below.refl _ _⟩
 | some ad =>
  have HR := Lib.hid hr; have HL := Lib.hid hl; clear hr hl; go_enter Tryz.func72, Tryz.ntmps72; have HO := Lib.hid (own_empty (Kd.int .i64) 3 w); have B0 := Lib.hid ((Below.refl w.heap.size w).alloc (Nat.le_refl _) (.cells #[] 3)); have HC := Lib.hid (Kd.C_below HR.out B0.out); go_wp2_with (at_builtin; refine Kd.R_append_rows (Kd.int .i64) (Rr := ((Kd.int .i64)).K (w.alloc (.cells #[] 3))) (w0 := w) w.heap.size rfl (.tmp 5) (.tmp 6) 49 3 (.int .i64 0) 8 rfl Tryz.underlying49 infoInt rfl (by decide) (by omega) _ [] xs _ xs.length c (fun _ => True) (fun _ => False) rfl rfl HO.out HC.out (fun _ _ h => h) (fun _ h => h.elim) (fun _ _ => trivial) B0.out (by simp) (by have := HL.out; simp only [List.length_nil]; omega) ?_; intro v1 w1 h1 h2 _ _; replace h1 := Lib.hid h1; replace h2 := Lib.hid h2); go_ret
  exact ⟨_, rfl, h1.out, h2.out⟩
theorem infoInst : (Tryz.prog.info? 143).map (fun i => (i.zero, i.size, i.bytes)) = some (some (.agg #[.int .i64 0, .int .i64 0, .string ⟨#[]⟩, .bool false, .string ⟨#[]⟩, .string ⟨#[]⟩, .string ⟨#[]⟩]), (k143).sz, 88) := by kernel_rfl
theorem cloneInst (A : Option Addr) (c : Nat) (xs : List S143) (w : World) (hr : Kd.C k143 w A xs.length xs) (hl : xs.length * 88 ≤ 140737488355328) :
  Calls Tryz.prog 99 #[.slice A xs.length c] w fun e w' => ∃ v, e = .returned v ∧ Kd.R k143 143 w' w.heap.size (fun _ => True) v xs ∧ Below w.heap.size w w' := by
 have q22 : ∀ (w : World) (a : Option Addr) (n c n' c' : Nat), (binOp .eql 103 (.slice a n c) (.slice none n' c')).run Tryz.prog w = .ok (.bool a.isNone) w := fun w a n c n' c' => Lib.run_eql_slice_nil w _ _ a n c n' c' Tryz.underlying103
 cases A with
 | none =>
  have h0 : xs.length = 0 := by
   rcases Nat.eq_zero_or_pos xs.length with h | h
   ·exact h
   ·obtain ⟨ad, h, _⟩ := hr.2.2 h
    cases h
  obtain rfl := List.eq_nil_of_length_eq_zero h0; clear h0 hr hl; go_enter Tryz.func99, Tryz.ntmps99; go_wp2; go_ret
  exact ⟨_, rfl, Kd.R_nil _ _ _ _ _, Below.refl _ _⟩
 | some ad =>
  have HR := Lib.hid hr; have HL := Lib.hid hl; clear hr hl; go_enter Tryz.func99, Tryz.ntmps99; have HO := Lib.hid (own_empty k143 143 w); have B0 := Lib.hid ((Below.refl w.heap.size w).alloc (Nat.le_refl _) (.cells #[] 143)); have HC := Lib.hid (Kd.C_below HR.out B0.out); go_wp2_with (at_builtin; refine Kd.R_append_rows k143 (Rr := (k143).K (w.alloc (.cells #[] 143))) (w0 := w) w.heap.size rfl (.tmp 5) (.tmp 6) 103 143 (.agg #[.int .i64 0, .int .i64 0, .string ⟨#[]⟩, .bool false, .string ⟨#[]⟩, .string ⟨#[]⟩, .string ⟨#[]⟩]) 88 rfl Tryz.underlying103 infoInst rfl (by decide) (by omega) _ [] xs _ xs.length c (fun _ => True) (fun _ => False) rfl rfl HO.out HC.out (fun _ _ h => h) (fun _ h => h.elim) (fun _ _ => trivial) B0.out (by simp) (by have := HL.out; simp only [List.length_nil]; omega) ?_; intro v1 w1 h1 h2 _ _; replace h1 := Lib.hid h1; replace h2 := Lib.hid h2); go_ret
  exact ⟨_, rfl, h1.out, h2.out⟩
theorem infoRawM : (Tryz.prog.info? 105).map (fun i => (i.zero, i.size, i.bytes)) = some (some (.agg #[.string ⟨#[]⟩, .string ⟨#[]⟩, .int .i64 0, .int .i64 0, .int .i64 0, .slice none 0 0]), (kRawM).sz, 80) := by kernel_rfl
theorem cloneRawM (A : Option Addr) (c : Nat) (xs : List RawM) (w : World) (hr : Kd.C kRawM w A xs.length xs) (hl : xs.length * 80 ≤ 140737488355328) :
  Calls Tryz.prog 115 #[.slice A xs.length c] w fun e w' => ∃ v, e = .returned v ∧ Kd.R kRawM 105 w' w.heap.size (fun _ => True) v xs ∧ Below w.heap.size w w' := by
 have q22 : ∀ (w : World) (a : Option Addr) (n c n' c' : Nat), (binOp .eql 83 (.slice a n c) (.slice none n' c')).run Tryz.prog w = .ok (.bool a.isNone) w := fun w a n c n' c' => Lib.run_eql_slice_nil w _ _ a n c n' c' Tryz.underlying83
 cases A with
 | none =>
  have h0 : xs.length = 0 := by
   rcases Nat.eq_zero_or_pos xs.length with h | h
   ·exact h
   ·obtain ⟨ad, h, _⟩ := hr.2.2 h
    cases h
  obtain rfl := List.eq_nil_of_length_eq_zero h0; clear h0 hr hl; go_enter Tryz.func115, Tryz.ntmps115; go_wp2; go_ret
  exact ⟨_, rfl, Kd.R_nil _ _ _ _ _, Below.refl _ _⟩
 | some ad =>
  have HR := Lib.hid hr; have HL := Lib.hid hl; clear hr hl; go_enter Tryz.func115, Tryz.ntmps115; have HO := Lib.hid (own_empty kRawM 105 w); have B0 := Lib.hid ((Below.refl w.heap.size w).alloc (Nat.le_refl _) (.cells #[] 105)); have HC := Lib.hid (Kd.C_below HR.out B0.out); go_wp2_with (at_builtin; refine Kd.R_append_rows kRawM (Rr := (kRawM).K (w.alloc (.cells #[] 105))) (w0 := w) w.heap.size rfl (.tmp 5) (.tmp 6) 83 105 (.agg #[.string ⟨#[]⟩, .string ⟨#[]⟩, .int .i64 0, .int .i64 0, .int .i64 0, .slice none 0 0]) 80 rfl Tryz.underlying83 infoRawM rfl (by decide) (by omega) _ [] xs _ xs.length c (fun _ => True) (fun _ => False) rfl rfl HO.out HC.out (fun _ _ h => h) (fun _ h => h.elim) (fun _ _ => trivial) B0.out (by simp) (by have := HL.out; simp only [List.length_nil]; omega) ?_; intro v1 w1 h1 h2 _ _; replace h1 := Lib.hid h1; replace h2 := Lib.hid h2); go_ret
  exact ⟨_, rfl, h1.out, h2.out⟩
end Go.Proofs.YtaipkdglhfhhiaaGreatDoor.Hi

namespace Go.Proofs.YtaipkdglhfhhiaaGreatDoor.Hi
open Go Go.RowKit Go.Proofs.YtaipkdglhfhhiaaGreatDoorW.PrintWords Go.Proofs.YtaipkdglhfhhiaaGreatDoorW.PrintLast Go.Proofs.YtaipkdglhfhhiaaGreatDoorW.PrintMore Go.Proofs.YtaipkdglhfhhiaaGreatDoor.Pt
set_option linter.unusedVariables false
set_option linter.unusedSimpArgs false
theorem list_of {α : Type} (n : Nat) (P : Nat → α → Prop) (h : ∀ j, j < n → ∃ y, P j y) : ∃ ys : List α, ys.length = n ∧ ∀ j y, ys[j]? = some y → P j y := by
 induction n with
 | zero => exact ⟨[], rfl, fun j y h => by simp at h⟩
 | succ n ih =>
  obtain ⟨ys, hl, hp⟩ := ih (fun j hj => h j (by omega)); obtain ⟨y, hy⟩ := h n (by omega); refine ⟨ys ++ [y], by simp [hl], fun j z hz => ?_⟩
  by_cases hj : j < ys.length
  ·rw [List.getElem?_append_left hj] at hz
   exact hp j z hz
  ·rw [List.getElem?_append_right (by omega)] at hz
   have : j - ys.length = 0 := by
    cases h0 : j - ys.length with
    | zero => rfl
    | succ k => rw [h0] at hz; simp at hz
   rw [this] at hz; simp at hz; subst hz
   obtain rfl : j = n := by omega
   exact hy
structure Beside (x : S105) (y : RawM) : Prop where
 e0 : y.f0 = x.f0
 e1 : y.f1 = x.f1
 e2 : y.f2 = x.f2
 e3 : y.f3 = x.f3
 e4 : y.f4 = x.f4
 el : y.sl.2.1 = x.f5.length
 ec : x.f5.length ≤ y.sl.2.2
theorem rawOf {w : World} {A : Option Addr} {l : List S105} (h : Kd.C k105 w A l.length l) :
  ∃ ys : List RawM, ys.length = l.length ∧ Kd.C kRawM w A l.length ys ∧ ∀ (j : Nat) (x : S105) (y : RawM), l[j]? = some x → ys[j]? = some y → Beside x y ∧ Kd.C k143 w y.sl.1 x.f5.length x.f5 := by
 obtain ⟨hl, hm, hr⟩ := h
 rcases Nat.eq_zero_or_pos l.length with h0 | h0
 ·exact ⟨[], by simp [h0], ⟨by simp [h0], hm, fun hp => by omega⟩, fun j x y hx hy => by simp at hy⟩
 ·obtain ⟨ad, rfl, hc⟩ := hr h0
  obtain ⟨ys, hyl, hy⟩ := list_of l.length (fun j (y : RawM) => ∃ x, l[j]? = some x ∧ Beside x y ∧ Kd.C k143 w y.sl.1 x.f5.length x.f5 ∧ ∃ c, c.length = kRawM.sz ∧ kRawM.K w y c ∧ ∀ i u, c[i]? = some u → w.cell? (ad.add (j * kRawM.sz + i)) = some u) (fun j hj => by
   have hx := List.getElem?_eq_getElem hj; obtain ⟨c, hcl, hK, hcell⟩ := hc j _ hx; obtain ⟨A5, c5, rfl, hle, hC5⟩ := k105_open hK; refine ⟨⟨l[j].f0, l[j].f1, l[j].f2, l[j].f3, l[j].f4, (A5, l[j].f5.length, c5)⟩, l[j], hx, ⟨rfl, rfl, rfl, rfl, rfl, rfl, hle⟩, hC5, _, rfl, ?_, hcell⟩
   exact ⟨[_], [_, _, _, _, _], rfl, rfl, ⟨[_], [_, _, _, _], rfl, rfl, ⟨[_], [_, _, _], rfl, rfl, ⟨[_], [_, _], rfl, rfl, ⟨[_], [_], rfl, rfl, rfl⟩⟩⟩⟩⟩)
  refine ⟨ys, hyl, ⟨hyl, hm, fun _ => ⟨ad, rfl, fun j y hj => ?_⟩⟩, fun j x y hx hj => ?_⟩
  ·obtain ⟨x, hx, _, _, c, h1, h2, h3⟩ := hy j y hj
   exact ⟨c, h1, h2, h3⟩
  ·obtain ⟨x', hx', h1, h2, _⟩ := hy j y hj
   rw [hx] at hx'
   cases hx'
   exact ⟨h1, h2⟩
theorem backOf {w : World} {base : Nat} {v : Value} {l : List S105} {ys : List RawM} (hl : ys.length = l.length) (h : Kd.R kRawM 105 w base (fun _ => True) v ys)
  (hb : ∀ (j : Nat) (x : S105) (y : RawM), l[j]? = some x → ys[j]? = some y → Beside x y ∧ Kd.R k143 143 w base (fun _ => True) (.slice y.sl.1 x.f5.length y.sl.2.2) x.f5) :
  Kd.R k105 105 w base (fun _ => True) v l := by
 obtain ⟨_, inner, ho, hr⟩ := h; refine ⟨fun _ _ => trivial, inner, by rw [← hl]; exact ho, ?_⟩; refine ⟨by rw [hr.1, hl]; rfl, fun j x hx => ?_⟩
 have hjl : j < ys.length := by rw [hl]; exact (List.getElem?_eq_some_iff.1 hx).1
 have hy := List.getElem?_eq_getElem hjl; obtain ⟨B, hC⟩ := hb j x _ hx hy; have hK := hr.2 j _ hy; obtain ⟨_, _, e1, rfl, ⟨_, _, rfl, rfl, ⟨_, _, rfl, rfl, ⟨_, _, rfl, rfl, ⟨_, _, rfl, rfl, rfl⟩⟩⟩⟩⟩ := hK; have e2 : (List.drop (j * k105.sz) inner).take k105.sz = (List.drop (j * kRawM.sz) inner).take kRawM.sz := rfl; rw [e2, e1]
 have hR : Kd.R k143 143 w base (fun k => (fun _ => True) k ∧ some k ≠ v.ownBlock) (.slice ys[j].sl.1 x.f5.length ys[j].sl.2.2) x.f5 := by
  refine Kd.R_mono (Kd.R_bound hC) (fun k hk => ⟨trivial, fun e => ?_⟩); obtain ⟨_, _, _, q, hq, cells, hc⟩ := hk; obtain ⟨cells', hc'⟩ := own_typed ho k e.symm; rw [hc] at hc'; injection hc' with hc'; injection hc' with _ ht; simp only [List.mem_cons] at hq
  rcases hq with rfl | hq
  ·exact absurd ht (by decide)
  ·cases hq
 have hM := k105_mkM w base (fun k => (fun _ => True) k ∧ some k ≠ v.ownBlock) x hR
 have e3 : ([.string x.f0, .string x.f1, .int .i64 x.f2, .int .i64 x.f3, .int .i64 x.f4, .slice ys[j].sl.1 x.f5.length ys[j].sl.2.2] : List Value) = [.string ys[j].f0] ++ ([.string ys[j].f1] ++ ([.int .i64 ys[j].f2] ++ ([.int .i64 ys[j].f3] ++ ([.int .i64 ys[j].f4] ++ [.slice ys[j].sl.1 ys[j].sl.2.1 ys[j].sl.2.2])))) := by
  rw [B.e0, B.e1, B.e2, B.e3, B.e4, B.el]
  rfl
 rw [e3] at hM
 exact hM
end Go.Proofs.YtaipkdglhfhhiaaGreatDoor.Hi

namespace Go.Proofs.YtaipkdglhfhhiaaGreatDoor.Hi
open Go Go.RowKit Go.Proofs.YtaipkdglhfhhiaaGreatDoorW.PrintWords Go.Proofs.YtaipkdglhfhhiaaGreatDoorW.PrintLast Go.Proofs.YtaipkdglhfhhiaaGreatDoorW.PrintMore Go.Proofs.YtaipkdglhfhhiaaGreatDoor.Pt
set_option linter.unusedVariables false
set_option linter.unusedSimpArgs false
set_option maxHeartbeats 2000000
def Short (l : List S105) : Prop := l.length * 80 ≤ 140737488355328 ∧ ∀ x ∈ l, x.f5.length * 88 ≤ 140737488355328
structure Part (w0 w : World) (base : Nat) (v5 : Value) (l : List S105) (k : Nat) (ys : List RawM) : Prop where
 len : ys.length = l.length
 row : Kd.R kRawM 105 w base (fun _ => True) v5 ys
 bes : ∀ (j : Nat) (x : S105) (y : RawM), l[j]? = some x → ys[j]? = some y → Beside x y
 own : ∀ (j : Nat) (x : S105) (y : RawM), j < k → l[j]? = some x → ys[j]? = some y → Kd.R k143 143 w base (fun _ => True) (.slice y.sl.1 x.f5.length y.sl.2.2) x.f5
 old : ∀ (j : Nat) (x : S105) (y : RawM), k ≤ j → l[j]? = some x → ys[j]? = some y → Kd.C k143 w0 y.sl.1 x.f5.length x.f5
theorem Part.step {w0 w w1 : World} {base g n cap : Nat} {l : List S105} {k : Nat} {ys : List RawM} (hp : Part w0 w base (.slice (some ⟨g, 0, none⟩) n cap) l k ys) (hk : k < l.length) (hb : Below w.heap.size w w1)
  {An : Option Addr} {cn : Nat} {x : S105} {y : RawM} (hx : l[k]? = some x) (hy : ys[k]? = some y) (Rn : Kd.R k143 143 w1 base (fun _ => True) (.slice An x.f5.length cn) x.f5) {cells : Array Value} (hg : w1.heap[g]? = some (.cells cells 105 (0, 0))) :
  Part w0 (w1.setCell ⟨g, k * 6 + 5, none⟩ (.slice An x.f5.length cn)) base (.slice (some ⟨g, 0, none⟩) n cap) l (k + 1) (ys.set k ⟨y.f0, y.f1, y.f2, y.f3, y.f4, (An, x.f5.length, cn)⟩) := by
 have hky : k < ys.length := by rw [hp.len]; exact hk
 have R1 := Kd.R_below hp.row hb
 have hcn : x.f5.length ≤ cn := by
  obtain ⟨A', c', ev, hle, _⟩ := Kd.R_reads Rn; injection ev with _ _ ec; rw [ec]; exact hle
 refine ⟨by rw [List.length_set]; exact hp.len, ?_, ?_, ?_, ?_⟩
 ·obtain ⟨A', c', ev, hlc, RC⟩ := Kd.R_reads R1
  injection ev with ea en ec; subst ea; obtain ⟨ad, cc, ead, hcl, hK, hcell⟩ := Kd.C_get RC y (k : Int) (by omega) (by omega); injection ead with ead; subst ead; rw [Int.toNat_natCast] at hK hcell
  have hyk : ys.getD k y = y := by rw [List.getD_eq_getElem?_getD, hy]; rfl
  rw [hyk] at hK; obtain ⟨_, _, rfl, rfl, ⟨_, _, rfl, rfl, ⟨_, _, rfl, rfl, ⟨_, _, rfl, rfl, ⟨_, _, rfl, rfl, rfl⟩⟩⟩⟩⟩ := hK; refine (Kd.R_seg R1 (k : Int) (by omega) (by omega) (j := 5) (seg := [.slice An x.f5.length cn]) (okp := fun _ => False) (c := [.string y.f0, .string y.f1, .int .i64 y.f2, .int .i64 y.f3, .int .i64 y.f4, .slice y.sl.1 y.sl.2.1 y.sl.2.2]) rfl (fun j u hj => ?_) (show 5 + 1 ≤ 6 by omega) (x' := ⟨y.f0, y.f1, y.f2, y.f3, y.f4, (An, x.f5.length, cn)⟩) ?_ (fun _ h => h.elim)).1
  ·have := hcell j u hj
   have ea : ∀ b o j, (⟨b, o, none⟩ : Addr).add j = ⟨b, o + j, none⟩ := fun b o j => by unfold Addr.add; split <;> simp_all
   rw [ea] at this; rw [Nat.zero_add] at this
   exact this
  ·exact ⟨[_], [_, _, _, _, _], rfl, rfl, ⟨[_], [_, _, _, _], rfl, rfl, ⟨[_], [_, _, _], rfl, rfl, ⟨[_], [_, _], rfl, rfl, ⟨[_], [_], rfl, rfl, rfl⟩⟩⟩⟩⟩
 ·intro j x1 y1 hx1 hy1
  by_cases hj : j = k
  ·subst hj
   rw [List.getElem?_set_self hky] at hy1; rw [hx] at hx1
   cases hx1; cases hy1
   have B := hp.bes j _ _ hx hy
   exact ⟨B.e0, B.e1, B.e2, B.e3, B.e4, rfl, hcn⟩
  ·rw [List.getElem?_set_ne (Ne.symm hj)] at hy1
   exact hp.bes j _ _ hx1 hy1
 ·intro j x1 y1 hlt hx1 hy1
  by_cases hj : j = k
  ·subst hj
   rw [List.getElem?_set_self hky] at hy1; rw [hx] at hx1
   cases hx1; cases hy1
   exact Kd.R_set Rn hg (by decide) _ _
  ·rw [List.getElem?_set_ne (Ne.symm hj)] at hy1
   exact Kd.R_set (Kd.R_below (hp.own j _ _ (by omega) hx1 hy1) hb) hg (by decide) _ _
 ·intro j x1 y1 hle hx1 hy1
  rw [List.getElem?_set_ne (by omega)] at hy1
  exact hp.old j _ _ (by omega) hx1 hy1
theorem copied_any (f0 f1 : ByteArray) (A2 : Option Addr) (c2 : Nat) (l2 : List ByteArray) (f3 f4 : Int) (A5 : Option Addr) (c5 : Nat) (l5 : List S105) (w : World)
  (h2 : Kd.C Kd.string w A2 l2.length l2) (h5 : Kd.C k105 w A5 l5.length l5) (b2 : l2.length * 16 ≤ 140737488355328) (b5 : Short l5) :
  Calls Tryz.prog 89 #[.agg #[.string f0, .string f1, .slice A2 l2.length c2, .int .i64 f3, .int .i64 f4, .slice A5 l5.length c5]] w fun e w' =>
   ∃ v2 v5, e = .returned (.agg #[.string f0, .string f1, v2, .int .i64 f3, .int .i64 f4, v5]) ∧ Kd.R Kd.string 9 w' w.heap.size (fun _ => True) v2 l2 ∧ Kd.R k105 105 w' w.heap.size (fun _ => True) v5 l5 ∧ Below w.heap.size w w' := by
 have B0 := heap_alloc2_old w (.cells #[.string f0, .string f1, .slice A2 l2.length c2, .int .i64 f3, .int .i64 f4, .slice A5 l5.length c5] 85) (.cells #[.string ⟨#[]⟩, .string ⟨#[]⟩, .slice none 0 0, .int .i64 0, .int .i64 0, .slice none 0 0] 85); have B1 := heap_alloc2_new w (.cells #[.string f0, .string f1, .slice A2 l2.length c2, .int .i64 f3, .int .i64 f4, .slice A5 l5.length c5] 85) (.cells #[.string ⟨#[]⟩, .string ⟨#[]⟩, .slice none 0 0, .int .i64 0, .int .i64 0, .slice none 0 0] 85); have BB := ((Below.refl w.heap.size w).alloc (Nat.le_refl _) (.cells #[.string f0, .string f1, .slice A2 l2.length c2, .int .i64 f3, .int .i64 f4, .slice A5 l5.length c5] 85)).alloc (by simp) (.cells #[.string ⟨#[]⟩, .string ⟨#[]⟩, .slice none 0 0, .int .i64 0, .int .i64 0, .slice none 0 0] 85); replace B0 := Lib.hid B0; replace B1 := Lib.hid B1; replace BB := Lib.hid BB; have H5 := Lib.hid h5; have C2 := Lib.hid (cloneStr A2 c2 l2 _ (Kd.C_below h2 BB.out) b2); have b5' := Lib.hid b5; clear h2 h5 b2 b5; go_enter Tryz.func89, Tryz.ntmps89; go_wp2_with fail; refine C2.out.mono ?_; rintro e w1 ⟨v2, rfl, R2, hb1⟩; have D0 := blk_below B0.out hb1; have D1 := blk_below B1.out hb1; have BB1 := BB.out.trans (hb1.mono (by simp; omega)); replace R2 := Kd.R_lower R2 (show w.heap.size ≤ _ by simp; omega); obtain ⟨A2', c2', rfl⟩ := Kd.R_slice R2; have k2 := blk_frozen D0 2; have q2 : w1.cell? ⟨w.heap.size, 2, none⟩ = some (.slice A2 l2.length c2) := (blk_cell D0 2).trans rfl; have q5 : w1.cell? ⟨w.heap.size, 5, none⟩ = some (.slice A5 l5.length c5) := (blk_cell D0 5).trans rfl; clear C2 B0 B1 BB hb1; have E0 := blk_set D0 2 (.slice A2' l2.length c2'); have E1 := blk_far D1 (p := ⟨w.heap.size, 2, none⟩) (by simp) (.slice A2' l2.length c2'); have R2' := Kd.R_set R2 D0 (by decide) 2 (.slice A2' l2.length c2'); have BB2 := BB1.setCell (p := ⟨w.heap.size, 2, none⟩) (Nat.le_refl _) (.slice A2' l2.length c2'); obtain ⟨ys0, hy0, HC, hbes⟩ := rawOf H5.out; replace HC := Kd.C_below HC BB2; rw [← hy0] at HC; have hs5 := b5'.out.1; have C5 := cloneRawM A5 c5 ys0 _ HC (by rw [hy0]; exact hs5); rw [hy0] at C5; replace E0 := Lib.hid E0; replace E1 := Lib.hid E1; replace R2' := Lib.hid R2'; replace BB2 := Lib.hid BB2; replace hy0 := Lib.hid hy0; replace hbes := Lib.hid hbes; replace C5 := Lib.hid C5; clear D0 D1 R2 BB1 HC hs5; go_wp2_with fail; refine C5.out.mono ?_; rintro e w3 ⟨v5, rfl, R5, hb3⟩; have D0 := blk_below E0.out hb3; have D1 := blk_below E1.out hb3; have R23 := Kd.R_below R2'.out hb3; have BB3 := BB2.out.trans (hb3.mono BB2.out.size); replace R5 := Kd.R_lower R5 BB2.out.size; obtain ⟨A5', c5', rfl⟩ := Kd.R_slice R5; have hyc : ys0.length = l5.length := hy0.out; rw [hyc] at R5; rw [hyc]; have k5 := blk_frozen D0 5; have q0 : w3.cell? ⟨w.heap.size, 5, none⟩ = some (.slice A5 l5.length c5) := (blk_cell D0 5).trans rfl; have E0 : (w3.setCell ⟨w.heap.size, 5, none⟩ (.slice A5' l5.length c5')).heap[w.heap.size]? = some (.cells #[.string f0, .string f1, .slice A2' l2.length c2', .int .i64 f3, .int .i64 f4, .slice A5' l5.length c5'] 85 (0, 0)) := (blk_set D0 5 (.slice A5' l5.length c5')).trans rfl; have E1 := blk_far D1 (p := ⟨w.heap.size, 5, none⟩) (by simp) (.slice A5' l5.length c5'); have R2' := Kd.R_set R23 D0 (by decide) 5 (.slice A5' l5.length c5'); have R5' := Kd.R_set R5 D0 (by decide) 5 (.slice A5' l5.length c5'); have BB4 := BB3.setCell (p := ⟨w.heap.size, 5, none⟩) (Nat.le_refl _) (.slice A5' l5.length c5')
 have PP : Part w (w3.setCell ⟨w.heap.size, 5, none⟩ (.slice A5' l5.length c5')) w.heap.size (.slice A5' l5.length c5') l5 0 ys0 :=
  ⟨hyc, R5', fun j x y hx hy => (hbes.out j x y hx hy).1, fun j x y hj => absurd hj (by omega), fun j x y _ hx hy => (hbes.out j x y hx hy).2⟩
 have p5 : (w3.setCell ⟨w.heap.size, 5, none⟩ (.slice A5' l5.length c5')).cell? ⟨w.heap.size, 5, none⟩ = some (.slice A5' l5.length c5') := (blk_cell E0 5).trans rfl; replace E0 := Lib.hid E0; replace E1 := Lib.hid E1; replace R2' := Lib.hid R2'; replace PP := Lib.hid PP; replace BB4 := Lib.hid BB4
 have hn : l5.length ≤ 1759218604441 := by have := b5'.out.1; omega
 clear k2 q2 q5 C5 BB2 hb3 D0 D1 R23 R5 R5' BB3 hyc hbes hy0; go_wp2
 go_loopw [15] (fun i wr => ∃ (k : Nat) (ys : List RawM), k ≤ l5.length ∧ i = .int .i64 k ∧ Hid (Part w wr w.heap.size (.slice A5' l5.length c5') l5 k ys) ∧ Hid (wr.heap[w.heap.size]? = some (.cells #[.string f0, .string f1, .slice A2' l2.length c2', .int .i64 f3, .int .i64 f4, .slice A5' l5.length c5'] 85 (0, 0))) ∧ Hid (wr.heap[w.heap.size + 1]? = some (.cells #[.string ⟨#[]⟩, .string ⟨#[]⟩, .slice none 0 0, .int .i64 0, .int .i64 0, .slice none 0 0] 85 (0, 0))) ∧ Hid (Kd.R Kd.string 9 wr w.heap.size (fun _ => True) (.slice A2' l2.length c2') l2) ∧ Hid (Below w.heap.size w wr)) (fun i _ => l5.length - (intOf i).toNat)
 case atStart => exact ⟨0, ys0, Nat.zero_le _, rfl, PP, E0, E1, R2', BB4⟩
 case round =>
  clear PP E0 E1 R2' BB4 p5; obtain ⟨k, ys, hk, rfl, PP, E0, E1, R2', BB4⟩ := hrel
  by_cases hlt : k < l5.length
  ·obtain ⟨g, cap, eg, hg, hgl, cells, hcells⟩ := Kd.R_form PP.out.row (by rw [PP.out.len]; omega)
   injection eg with e1 e2 e3; subst e1 e3; clear e2
   have hky : k < ys.length := by rw [PP.out.len]; exact hlt
   have hx := List.getElem?_eq_getElem hlt; have hy := List.getElem?_eq_getElem hky; have BE := PP.out.bes k _ _ hx hy; have OC := PP.out.old k _ _ (Nat.le_refl _) hx hy; obtain ⟨A', c', ev, hlc, RC⟩ := Kd.R_reads PP.out.row; injection ev with ea en ec; subst ea ec; clear en; obtain ⟨ad, cc, ead, hcl, hK, hcell⟩ := Kd.C_get RC ⟨⟨#[]⟩, ⟨#[]⟩, 0, 0, 0, (none, 0, 0)⟩ (k : Int) (by omega) (by omega); injection ead with ead; subst ead; rw [Int.toNat_natCast] at hK hcell
   have hget : ys.getD k ⟨⟨#[]⟩, ⟨#[]⟩, 0, 0, 0, (none, 0, 0)⟩ = ys[k] := by simp [List.getD_eq_getElem?_getD, hky]
   rw [hget] at hK; obtain ⟨_, _, rfl, rfl, ⟨_, _, rfl, rfl, ⟨_, _, rfl, rfl, ⟨_, _, rfl, rfl, ⟨_, _, rfl, rfl, rfl⟩⟩⟩⟩⟩ := hK
   have cpos : wr.cell? ⟨g, k * 6 + 5, none⟩ = some (.slice ys[k].sl.1 l5[k].f5.length ys[k].sl.2.2) := by
    have := hcell 5 _ rfl; rw [← BE.el]; rw [show kRawM.sz = 6 from rfl] at this
    simpa [Addr.add] using this
   have fpos := blk_frozen hcells (k * 6 + 5); have p5 : wr.cell? ⟨w.heap.size, 5, none⟩ = some (.slice (some ⟨g, 0, none⟩) l5.length c5') := (blk_cell E0.out 5).trans rfl; have CI : Hid (∀ W, Below wr.heap.size wr W → _) := Lib.hid (fun W (hb : Below wr.heap.size wr W) => cloneInst ys[k].sl.1 ys[k].sl.2.2 l5[k].f5 W (Kd.C_below OC (BB4.out.trans (hb.mono BB4.out.size))) (b5'.out.2 _ (List.mem_of_getElem? hx))); have ne0 : w.heap.size ≠ g := blk_ne E0.out hcells (by decide); have ne1 : w.heap.size + 1 ≠ g := blk_ne E1.out hcells (by decide); replace ne0 := Lib.hid ne0; replace ne1 := Lib.hid ne1; replace hx := Lib.hid hx; replace hy := Lib.hid hy; replace hcells := Lib.hid hcells; generalize hl5 : l5[k].f5 = code at *; generalize ys[k].sl.1 = Ak at *; generalize ys[k].sl.2.2 = ck at *; clear RC hcell hget; have hlen : decide (k < l5.length) = true := decide_eq_true hlt; go_wp2
   go_region_with (go_at_call 99; refine (CI.out _ (by repeat (first | exact Below.refl _ _ | apply below_drew1 | apply pw_below_drewN))).mono ?_; rintro e w10 ⟨vn, rfl, Rn, hb10⟩; obtain ⟨An, cn, rfl⟩ := Kd.R_slice Rn; have hb11 : Hid (Below wr.heap.size wr w10) := Lib.hid ⟨hb10.os, hb10.tape, hb10.output, hb10.size, hb10.block⟩; have E0' := blk_below (w := wr.drew) E0.out hb10; have p5' : w10.cell? ⟨w.heap.size, 5, none⟩ = some (.slice (some ⟨g, 0, none⟩) l5.length c5') := (blk_cell E0' 5).trans rfl; have hcells' := blk_below (w := wr.drew) hcells.out hb10; have fpos' := blk_frozen hcells' (k * 6 + 5); have cpos' : w10.cell? ⟨g, k * 6 + 5, none⟩ = some (.slice Ak code.length ck) := bl_cell (w := wr.drew) hb10 cpos; have hsz := hb10.size; replace E0' := Lib.hid E0'; replace Rn := Lib.hid Rn; replace hcells' := Lib.hid hcells'; replace hb10 := Lib.hid hb10)
   all_goals subst hl5
   all_goals have Rn' := Lib.hid (Kd.R_lower Rn.out (show w.heap.size ≤ _ from BB4.out.size))
   all_goals have P2 := Lib.hid (Part.step PP.out hlt hb11.out hx.out hy.out Rn'.out hcells'.out)
   all_goals have F0 := Lib.hid (blk_far E0'.out (p := ⟨g, k * 6 + 5, none⟩) ne0.out (.slice An l5[k].f5.length cn))
   all_goals have F1 := Lib.hid (blk_far (blk_below E1.out hb11.out) (p := ⟨g, k * 6 + 5, none⟩) ne1.out (.slice An l5[k].f5.length cn))
   all_goals have F2 := Lib.hid (Kd.R_set (Kd.R_below R2'.out hb11.out) hcells'.out (by decide) (k * 6 + 5) (.slice An l5[k].f5.length cn))
   all_goals have F3 := Lib.hid ((BB4.out.trans (hb11.out.mono BB4.out.size)).setCell (p := ⟨g, k * 6 + 5, none⟩) hg (.slice An l5[k].f5.length cn))
   all_goals clear Rn Rn' PP E0 E0' E1 R2' BB4 hcells hcells' hb10 hb11 CI BE OC
   all_goals go_wp2
   all_goals refine ⟨?_, ?_⟩
   all_goals first | (simp [intOf]; omega) | (exact ⟨k + 1, _, by omega, by push_cast; rfl, P2, F0, F1, F2, F3⟩)
  ·have p0 : wr.cell? ⟨w.heap.size, 0, none⟩ = some (.string f0) := (blk_cell E0.out 0).trans rfl
   have p1 : wr.cell? ⟨w.heap.size, 1, none⟩ = some (.string f1) := (blk_cell E0.out 1).trans rfl; have p2 : wr.cell? ⟨w.heap.size, 2, none⟩ = some (.slice A2' l2.length c2') := (blk_cell E0.out 2).trans rfl; have p3 : wr.cell? ⟨w.heap.size, 3, none⟩ = some (.int .i64 f3) := (blk_cell E0.out 3).trans rfl; have p4 : wr.cell? ⟨w.heap.size, 4, none⟩ = some (.int .i64 f4) := (blk_cell E0.out 4).trans rfl; have p5 : wr.cell? ⟨w.heap.size, 5, none⟩ = some (.slice A5' l5.length c5') := (blk_cell E0.out 5).trans rfl; have q0 : wr.cell? ⟨w.heap.size + 1, 0, none⟩ = some (.string ⟨#[]⟩) := (blk_cell E1.out 0).trans rfl; have q1 : wr.cell? ⟨w.heap.size + 1, 1, none⟩ = some (.string ⟨#[]⟩) := (blk_cell E1.out 1).trans rfl; have q2 : wr.cell? ⟨w.heap.size + 1, 2, none⟩ = some (.slice none 0 0) := (blk_cell E1.out 2).trans rfl; have q3 : wr.cell? ⟨w.heap.size + 1, 3, none⟩ = some (.int .i64 0) := (blk_cell E1.out 3).trans rfl; have q4 : wr.cell? ⟨w.heap.size + 1, 4, none⟩ = some (.int .i64 0) := (blk_cell E1.out 4).trans rfl; have q5 : wr.cell? ⟨w.heap.size + 1, 5, none⟩ = some (.slice none 0 0) := (blk_cell E1.out 5).trans rfl; have g0 := blk_frozen E1.out 0; have g1 := blk_frozen E1.out 1; have g2 := blk_frozen E1.out 2; have g3 := blk_frozen E1.out 3; have g4 := blk_frozen E1.out 4; have g5 := blk_frozen E1.out 5; have W1 := Lib.hid hlt; clear hlt; have hge : decide (k < l5.length) = false := decide_eq_false W1.out; have hall : Kd.R k105 105 wr w.heap.size (fun _ => True) (.slice A5' l5.length c5') l5 := backOf PP.out.len PP.out.row (fun j x y hx hy => ⟨PP.out.bes j x y hx hy, PP.out.own j x y (by have := (List.getElem?_eq_some_iff.1 hx).1; have := W1.out; omega) hx hy⟩); have T5 := Lib.hid (Kd.R_mono (Kd.R_far (p := ⟨w.heap.size + 1, 5, none⟩) (Kd.R_far (p := ⟨w.heap.size + 1, 4, none⟩) (Kd.R_far (p := ⟨w.heap.size + 1, 3, none⟩) (Kd.R_far (p := ⟨w.heap.size + 1, 2, none⟩) (Kd.R_far (p := ⟨w.heap.size + 1, 1, none⟩) (Kd.R_far (p := ⟨w.heap.size + 1, 0, none⟩) (Kd.R_types hall E1.out (by decide)) (fun _ h => h.2) (.string f0)) (fun _ h => h.2) (.string f1)) (fun _ h => h.2) (.slice A2' l2.length c2')) (fun _ h => h.2) (.int .i64 f3)) (fun _ h => h.2) (.int .i64 f4)) (fun _ h => h.2) (.slice A5' l5.length c5')) (fun _ _ => trivial) (ok' := fun _ => True)); have T2 := Lib.hid (Kd.R_mono (Kd.R_far (p := ⟨w.heap.size + 1, 5, none⟩) (Kd.R_far (p := ⟨w.heap.size + 1, 4, none⟩) (Kd.R_far (p := ⟨w.heap.size + 1, 3, none⟩) (Kd.R_far (p := ⟨w.heap.size + 1, 2, none⟩) (Kd.R_far (p := ⟨w.heap.size + 1, 1, none⟩) (Kd.R_far (p := ⟨w.heap.size + 1, 0, none⟩) (Kd.R_types R2'.out E1.out (by decide)) (fun _ h => h.2) (.string f0)) (fun _ h => h.2) (.string f1)) (fun _ h => h.2) (.slice A2' l2.length c2')) (fun _ h => h.2) (.int .i64 f3)) (fun _ h => h.2) (.int .i64 f4)) (fun _ h => h.2) (.slice A5' l5.length c5')) (fun _ _ => trivial) (ok' := fun _ => True)); have X1 := Lib.hid (blk_set (blk_set (blk_set (blk_set (blk_set (blk_set E1.out 0 (.string f0)) 1 (.string f1)) 2 (.slice A2' l2.length c2')) 3 (.int .i64 f3)) 4 (.int .i64 f4)) 5 (.slice A5' l5.length c5')); have X2 := Lib.hid ((((((BB4.out.setCell (p := ⟨w.heap.size + 1, 0, none⟩) (Nat.le_succ _) (.string f0)).setCell (p := ⟨w.heap.size + 1, 1, none⟩) (Nat.le_succ _) (.string f1)).setCell (p := ⟨w.heap.size + 1, 2, none⟩) (Nat.le_succ _) (.slice A2' l2.length c2')).setCell (p := ⟨w.heap.size + 1, 3, none⟩) (Nat.le_succ _) (.int .i64 f3)).setCell (p := ⟨w.heap.size + 1, 4, none⟩) (Nat.le_succ _) (.int .i64 f4)).setCell (p := ⟨w.heap.size + 1, 5, none⟩) (Nat.le_succ _) (.slice A5' l5.length c5')); clear hall; go_wp2; refine bodyPost_ret (v := .agg #[.string f0, .string f1, .slice A2' l2.length c2', .int .i64 f3, .int .i64 f4, .slice A5' l5.length c5']) (results_cell_row rfl _ _ (w.heap.size + 1) 85 _ (0, 0) _ rfl (X1.out.trans rfl) Tryz.underlying85 rfl (by kernel_rfl)) rfl ⟨_, _, rfl, T2.out, T5.out, X2.out⟩
end Go.Proofs.YtaipkdglhfhhiaaGreatDoor.Hi

namespace Go.Proofs.YtaipkdglhfhhiaaGreatDoor.Hi
open Go Go.RowKit Go.Proofs.YtaipkdglhfhhiaaGreatDoorW.PrintWords Go.Proofs.YtaipkdglhfhhiaaGreatDoorW.PrintLast Go.Proofs.YtaipkdglhfhhiaaGreatDoorW.PrintMore Go.Proofs.YtaipkdglhfhhiaaGreatDoor.Pt
set_option linter.unusedVariables false
set_option linter.unusedSimpArgs false
structure Ent where
 c : S85
 above : Int
 depth : Int
 clo : List Int
def kE : Kd Ent := Kd.iso (Kd.pair k85 (Kd.pair (Kd.int .i64) (Kd.pair (Kd.int .i64) (Kd.slice 3 (Kd.int .i64))))) (fun x : Ent => (x.c, x.above, x.depth, x.clo))
theorem kE_open {w : World} {x : Ent} {cs : List Value} (h : kE.K w x cs) : ∃ A2 c2 A5 c5 A8 c8, cs = [.string x.c.f0, .string x.c.f1, .slice A2 x.c.f2.length c2, .int .i64 x.c.f3, .int .i64 x.c.f4, .slice A5 x.c.f5.length c5, .int .i64 x.above, .int .i64 x.depth, .slice A8 x.clo.length c8] ∧ x.c.f2.length ≤ c2 ∧ Kd.string.C w A2 x.c.f2.length x.c.f2 ∧ x.c.f5.length ≤ c5 ∧ k105.C w A5 x.c.f5.length x.c.f5 ∧ x.clo.length ≤ c8 ∧ (Kd.int .i64).C w A8 x.clo.length x.clo := by
 obtain ⟨_, _, rfl, hc, ⟨_, _, rfl, rfl, ⟨_, _, rfl, rfl, ⟨A8, c8, rfl, l8, g8⟩⟩⟩⟩ := h; obtain ⟨A2, c2, A5, c5, rfl, l2, g2, l5, g5⟩ := k85_open hc
 exact ⟨A2, c2, A5, c5, A8, c8, rfl, l2, g2, l5, g5, l8, g8⟩
theorem kE_mkM (w : World) (base : Nat) (ok : Nat → Prop) (x : Ent) {v2 v5 v8 : Value} (g2 : Kd.string.R 9 w base ok v2 x.c.f2) (g5 : k105.R 105 w base ok v5 x.c.f5) (g8 : (Kd.int .i64).R 3 w base ok v8 x.clo) :
  kE.M w base ok x [.string x.c.f0, .string x.c.f1, v2, .int .i64 x.c.f3, .int .i64 x.c.f4, v5, .int .i64 x.above, .int .i64 x.depth, v8] :=
 ⟨[.string x.c.f0, .string x.c.f1, v2, .int .i64 x.c.f3, .int .i64 x.c.f4, v5], [.int .i64 x.above, .int .i64 x.depth, v8], rfl, k85_mkM w base ok x.c g2 g5, ⟨[.int .i64 x.above], [.int .i64 x.depth, v8], rfl, rfl, ⟨[.int .i64 x.depth], [v8], rfl, rfl, ⟨v8, rfl, g8⟩⟩⟩⟩
def ptrE (p : Nat) : Value := .pointer (some ⟨p, 0, none⟩)
def kP : Kd Nat := Kd.scalar ptrE (fun _ => rfl)
def MapSays (D : DataW Unit) (names : List ByteArray) : Prop := Maps.IsMap D ∧ ∀ s : ByteArray,
 (Maps.has D (.string s.data.toList) = true ↔ s ∈ names) ∧ ∀ i : Nat, names[i]? = some s → D.atKey (.string s.data.toList) (.lit (.int .i64 0)) = .lit (.int .i64 i)
theorem str_inj {s t : ByteArray} (h : Lit.string s.data.toList = Lit.string t.data.toList) : s = t := by
 injection h with h
 cases s; cases t
 simp at h; rw [ByteArray.mk.injEq]
 exact h
theorem MapSays.nil : MapSays (.map []) [] := ⟨⟨[], rfl⟩, fun s => ⟨by simp [Maps.has], fun i h => by simp at h⟩⟩
theorem MapSays.put {D : DataW Unit} {names : List ByteArray} (h : MapSays D names) (s : ByteArray) (hs : s ∉ names) : MapSays (D.put (.string s.data.toList) (.lit (.int .i64 (names.length : Nat)))) (names ++ [s]) := by
 obtain ⟨hm, h⟩ := h
 have hk : WideAt.IsKeyLit (.string s.data.toList) := by simp [WideAt.IsKeyLit]
 refine ⟨?_, fun t => ?_⟩
 ·obtain ⟨es, rfl⟩ := hm
  exact ⟨_, rfl⟩
 ·obtain ⟨h1, h2⟩ := h t
  by_cases ht : t = s
  ·subst ht
   refine ⟨by rw [Maps.has_put_same hm hk]; simp, fun i hi => ?_⟩; rw [Maps.atKey_put_same hm hk]
   have : ¬ i < names.length := fun hl => by
    rw [List.getElem?_append_left hl] at hi
    exact hs (List.mem_of_getElem? hi)
   rw [List.getElem?_append_right (by omega)] at hi
   have : i - names.length = 0 := by
    cases h0 : i - names.length with
    | zero => rfl
    | succ k => rw [h0] at hi; simp at hi
   obtain rfl : i = names.length := by omega
   rfl
  ·have hne : Lit.string t.data.toList ≠ Lit.string s.data.toList := fun e => ht (str_inj e)
   refine ⟨by rw [Maps.has_put_other hne, h1]; simp [ht], fun i hi => ?_⟩; rw [Maps.atKey_put_other hne]
   by_cases hl : i < names.length
   ·rw [List.getElem?_append_left hl] at hi
    exact h2 i hi
   ·rw [List.getElem?_append_right (by omega)] at hi
    cases h0 : i - names.length with
    | zero => rw [h0] at hi; simp at hi; exact absurd hi.symm ht
    | succ k => rw [h0] at hi; simp at hi
structure WIn (w : World) (base g : Nat) (v : Value) (mb : Nat) (ps : List Nat) (es : List Ent) : Prop where
 hg : base ≤ g
 blk : w.heap[g]? = some (.cells #[v, .map (some mb)] 133 (0, 0))
 row : Kd.R kP 147 w base (fun _ => True) v ps
 len : ps.length = es.length
 ent : ∀ (j : Nat) (x : Ent) (p : Nat), es[j]? = some x → ps[j]? = some p → base ≤ p ∧ ∃ cells, w.heap[p]? = some (.cells cells 150 (0, 0)) ∧ kE.M w base (fun _ => True) x cells.toList
 mbl : base ≤ mb
 map : ∃ D : DataW Unit, w.ownsMap Tryz.prog 9 (plainElem Tryz.prog 3) mb es.length D ∧ MapSays D (es.map (·.c.f0))
theorem WIn.below {w w1 : World} {base g : Nat} {v : Value} {mb : Nat} {ps : List Nat} {es : List Ent} (h : WIn w base g v mb ps es) (hb : Below w.heap.size w w1) : WIn w1 base g v mb ps es := by
 refine ⟨h.hg, blk_below h.blk hb, ?_, h.len, fun j x p hx hp => ?_, h.mbl, ?_⟩
 ·exact Kd.R_below h.row hb
 ·obtain ⟨h1, cells, h2, h3⟩ := h.ent j x p hx hp
  exact ⟨h1, cells, blk_below h2 hb, Kd.M_below h3 hb⟩
 ·obtain ⟨D, h1, h2⟩ := h.map
  obtain ⟨es1, clock, hbk, F, hs, rfl⟩ := h1
  exact ⟨_, ⟨es1, clock, blk_below hbk hb, F, hs, rfl⟩, h2⟩
end Go.Proofs.YtaipkdglhfhhiaaGreatDoor.Hi

namespace Go.Proofs.YtaipkdglhfhhiaaGreatDoor.Hi
open Go Go.RowKit Go.Proofs.YtaipkdglhfhhiaaGreatDoorW.PrintWords Go.Proofs.YtaipkdglhfhhiaaGreatDoorW.PrintLast Go.Proofs.YtaipkdglhfhhiaaGreatDoorW.PrintMore Go.Proofs.YtaipkdglhfhhiaaGreatDoor.Pt
set_option linter.unusedVariables false
set_option linter.unusedSimpArgs false
set_option maxHeartbeats 2000000
def atP (ps : List Nat) (id : Int) : Value := if 0 ≤ id ∧ id < ps.length then ptrE (ps.getD id.toNat 0) else .pointer none
theorem at_any (w : World) (base g : Nat) (v : Value) (mb : Nat) (ps : List Nat) (es : List Ent) (h : WIn w base g v mb ps es) (id : Int) :
  Calls Tryz.prog 98 #[.pointer (some ⟨g, 0, none⟩), .int .i64 id] w fun e w' => e = .returned (atP ps id) ∧ Below w.heap.size w w' := by
 obtain ⟨A, c, rfl, hlc, RC⟩ := Kd.R_reads h.row; have q0 : w.cell? ⟨g, 0, none⟩ = some (.slice A ps.length c) := (blk_cell h.blk 0).trans rfl; have k0 := blk_frozen h.blk 0
 by_cases h0 : 0 ≤ id
 ·by_cases h1 : id < ps.length
  ·obtain ⟨ad, cc, rfl, hcl, hK, hcell⟩ := Kd.C_get RC 0 id h0 h1
   obtain rfl : cc = [ptrE (ps.getD id.toNat 0)] := hK; have hc := hcell 0 _ rfl; have hlt : decide (id < 0) = false := decide_eq_false (by omega); have hge : decide (id ≥ (ps.length : Int)) = false := decide_eq_false (by omega); have HA : Hid (atP ps id = ptrE (ps.getD id.toNat 0)) := Lib.hid (if_pos ⟨h0, h1⟩); rw [show kP.sz = 1 from rfl] at hc; rw [Nat.mul_one, Nat.add_zero] at hc; clear hcell RC hcl; go_enter Tryz.func98, Tryz.ntmps98; go_wp2
   exact bodyPost_ret (v := ptrE ps[id.toNat]) (by simp [results, Tryz.results98, go_sem]) rfl ⟨by rw [HA.out, List.getD_eq_getElem?_getD, List.getElem?_eq_getElem (by omega)]; rfl, Below.refl _ _⟩
  ·have hlt : decide (id < 0) = false := decide_eq_false (by omega)
   have hge : decide (id ≥ (ps.length : Int)) = true := decide_eq_true (by omega); have HA : Hid (atP ps id = .pointer none) := Lib.hid (if_neg (by omega)); clear RC; go_enter Tryz.func98, Tryz.ntmps98; go_wp2
   exact bodyPost_ret (v := .pointer none) (by simp [results, Tryz.results98, go_sem]) rfl ⟨by rw [HA.out], Below.refl _ _⟩
 ·have hlt : decide (id < 0) = true := decide_eq_true (by omega)
  have HA : Hid (atP ps id = .pointer none) := Lib.hid (if_neg (by omega)); clear RC; go_enter Tryz.func98, Tryz.ntmps98; go_wp2
  exact bodyPost_ret (v := .pointer none) (by simp [results, Tryz.results98, go_sem]) rfl ⟨by rw [HA.out], Below.refl _ _⟩
end Go.Proofs.YtaipkdglhfhhiaaGreatDoor.Hi

namespace Go.Proofs.YtaipkdglhfhhiaaGreatDoor.Hi
open Go Go.RowKit Go.Proofs.YtaipkdglhfhhiaaGreatDoorW.PrintWords Go.Proofs.YtaipkdglhfhhiaaGreatDoorW.PrintLast Go.Proofs.YtaipkdglhfhhiaaGreatDoorW.PrintMore Go.Proofs.YtaipkdglhfhhiaaGreatDoor.Pt
set_option linter.unusedVariables false
set_option linter.unusedSimpArgs false
set_option maxHeartbeats 2000000
def zE : Ent := ⟨z85, 0, 0, []⟩
def classF (es : List Ent) (id : Int) : S85 × Int := if 0 ≤ id ∧ id < es.length then ((es.getD id.toNat zE).c, 0) else (z85, 3)
def Small (c : S85) : Prop := c.f2.length * 16 ≤ 140737488355328 ∧ Short c.f5
def OwnC (w : World) (base : Nat) (v : Value) (c : S85) : Prop := ∃ v2 v5, v = .agg #[.string c.f0, .string c.f1, v2, .int .i64 c.f3, .int .i64 c.f4, v5] ∧ Kd.R Kd.string 9 w base (fun _ => True) v2 c.f2 ∧ Kd.R k105 105 w base (fun _ => True) v5 c.f5
theorem WIn.at_ {w : World} {base g : Nat} {v : Value} {mb : Nat} {ps : List Nat} {es : List Ent} (h : WIn w base g v mb ps es) {id : Int} (h0 : 0 ≤ id) (h1 : id < es.length) :
  ∃ p cells, atP ps id = ptrE p ∧ w.heap[p]? = some (.cells cells 150 (0, 0)) ∧ kE.K w (es.getD id.toNat zE) cells.toList := by
 have hl := h.len
 have hx : es[id.toNat]? = some (es.getD id.toNat zE) := by
  rw [List.getD_eq_getElem?_getD, List.getElem?_eq_getElem (by omega)]; rfl
 have hp : ps[id.toNat]? = some (ps.getD id.toNat 0) := by
  rw [List.getD_eq_getElem?_getD, List.getElem?_eq_getElem (by omega)]; rfl
 obtain ⟨_, cells, h2, h3⟩ := h.ent _ _ _ hx hp
 exact ⟨ps.getD id.toNat 0, cells, if_pos ⟨h0, by omega⟩, h2, Kd.K_of_M _ h3⟩
abbrev set6 (W : World) (g : Nat) (u0 u1 u2 u3 u4 u5 : Value) : World := ((((((W.setCell ⟨g, 0, none⟩ u0).setCell ⟨g, 1, none⟩ u1).setCell ⟨g, 2, none⟩ u2).setCell ⟨g, 3, none⟩ u3).setCell ⟨g, 4, none⟩ u4).setCell ⟨g, 5, none⟩ u5)
theorem blk_set6 {W : World} {g t : Nat} {x0 x1 x2 x3 x4 x5 : Value} (h : W.heap[g]? = some (.cells #[x0, x1, x2, x3, x4, x5] t (0, 0))) (u0 u1 u2 u3 u4 u5 : Value) : (set6 W g u0 u1 u2 u3 u4 u5).heap[g]? = some (.cells #[u0, u1, u2, u3, u4, u5] t (0, 0)) :=
 (blk_set (blk_set (blk_set (blk_set (blk_set (blk_set h 0 u0) 1 u1) 2 u2) 3 u3) 4 u4) 5 u5).trans rfl
theorem R_set6 {α : Type} {d : Kd α} {e : Nat} {W : World} {base : Nat} {ok : Nat → Prop} {v : Value} {xs : List α} (h : d.R e W base ok v xs) {g t : Nat} {cells : Array Value} (hb : W.heap[g]? = some (.cells cells t (0, 0))) (ht : ∀ q, q ∈ e :: d.E → q ≠ t) (u0 u1 u2 u3 u4 u5 : Value) : d.R e (set6 W g u0 u1 u2 u3 u4 u5) base ok v xs :=
 Kd.R_set (Kd.R_set (Kd.R_set (Kd.R_set (Kd.R_set (Kd.R_set h hb ht 0 u0) (blk_set hb 0 u0) ht 1 u1) (blk_set (blk_set hb 0 u0) 1 u1) ht 2 u2) (blk_set (blk_set (blk_set hb 0 u0) 1 u1) 2 u2) ht 3 u3) (blk_set (blk_set (blk_set (blk_set hb 0 u0) 1 u1) 2 u2) 3 u3) ht 4 u4) (blk_set (blk_set (blk_set (blk_set (blk_set hb 0 u0) 1 u1) 2 u2) 3 u3) 4 u4) ht 5 u5
theorem below_set6 {W0 W : World} {base g : Nat} (h : Below base W0 W) (hg : base ≤ g) (u0 u1 u2 u3 u4 u5 : Value) : Below base W0 (set6 W g u0 u1 u2 u3 u4 u5) :=
 (((((h.setCell (p := ⟨g, 0, none⟩) hg u0).setCell (p := ⟨g, 1, none⟩) hg u1).setCell (p := ⟨g, 2, none⟩) hg u2).setCell (p := ⟨g, 3, none⟩) hg u3).setCell (p := ⟨g, 4, none⟩) hg u4).setCell (p := ⟨g, 5, none⟩) hg u5
theorem class_any (w : World) (base g : Nat) (v : Value) (mb : Nat) (ps : List Nat) (es : List Ent) (h : WIn w base g v mb ps es) (hs : ∀ x ∈ es, Small x.c) (id : Int) :
  Calls Tryz.prog 58 #[.pointer (some ⟨g, 0, none⟩), .int .i64 id] w fun e w' => ∃ vc, e = .returned (.tuple #[vc, .int .i64 (classF es id).2]) ∧ OwnC w' w.heap.size vc (classF es id).1 ∧ Below w.heap.size w w' := by
 have hl := h.len; have B0 := blk_new w (.cells #[.string ⟨#[]⟩, .string ⟨#[]⟩, .slice none 0 0, .int .i64 0, .int .i64 0, .slice none 0 0] 85); have BB := (Below.refl w.heap.size w).alloc (Nat.le_refl _) (.cells #[.string ⟨#[]⟩, .string ⟨#[]⟩, .slice none 0 0, .int .i64 0, .int .i64 0, .slice none 0 0] 85); have h' := h.below (BB.mono (Nat.le_refl _)); have CA := Lib.hid (at_any _ base g v mb ps es h' id); have hsz : w.heap.size ≤ (w.alloc (.cells #[.string ⟨#[]⟩, .string ⟨#[]⟩, .slice none 0 0, .int .i64 0, .int .i64 0, .slice none 0 0] 85)).heap.size := BB.size; replace B0 := Lib.hid B0; replace BB := Lib.hid BB; replace hsz := Lib.hid hsz
 by_cases hin : 0 ≤ id ∧ id < es.length
 ·obtain ⟨p, cells, hp, hblk, hK⟩ := h'.at_ hin.1 hin.2
  have hc : classF es id = ((es.getD id.toNat zE).c, 0) := if_pos hin
  have hx : es.getD id.toNat zE ∈ es := by
   rw [List.getD_eq_getElem?_getD, List.getElem?_eq_getElem (by omega)]
   exact List.getElem_mem _
  have sm := Lib.hid (hs _ hx); generalize es.getD id.toNat zE = x at *; obtain ⟨A2, c2, A5, c5, A8, c8, hcs, l2, g2, l5, g5, l8, g8⟩ := kE_open hK; obtain rfl : cells = #[.string x.c.f0, .string x.c.f1, .slice A2 x.c.f2.length c2, .int .i64 x.c.f3, .int .i64 x.c.f4, .slice A5 x.c.f5.length c5, .int .i64 x.above, .int .i64 x.depth, .slice A8 x.clo.length c8] := Array.toList_inj.1 hcs; rw [hp] at CA; rw [hc]; replace hblk := Lib.hid hblk; replace g2 := Lib.hid g2; replace g5 := Lib.hid g5; clear hK hcs g8 h h' hc hp hx hs; go_enter Tryz.func58, Tryz.ntmps58; go_wp2_with fail; refine CA.out.mono ?_; rintro e w1 ⟨rfl, hb1⟩; have D0 := blk_below B0.out hb1; have DP := blk_below hblk.out hb1; have BB1 := Lib.hid (BB.out.trans (hb1.mono hsz.out)); have CC := Lib.hid (copied_any x.c.f0 x.c.f1 A2 c2 x.c.f2 x.c.f3 x.c.f4 A5 c5 x.c.f5 w1 (Kd.C_below g2.out hb1) (Kd.C_below g5.out hb1) sm.out.1 sm.out.2); have p0 : w1.cell? ⟨p, 0, none⟩ = some (.string x.c.f0) := (blk_cell DP 0).trans rfl; have p1 : w1.cell? ⟨p, 1, none⟩ = some (.string x.c.f1) := (blk_cell DP 1).trans rfl; have p2 : w1.cell? ⟨p, 2, none⟩ = some (.slice A2 x.c.f2.length c2) := (blk_cell DP 2).trans rfl; have p3 : w1.cell? ⟨p, 3, none⟩ = some (.int .i64 x.c.f3) := (blk_cell DP 3).trans rfl; have p4 : w1.cell? ⟨p, 4, none⟩ = some (.int .i64 x.c.f4) := (blk_cell DP 4).trans rfl; have p5 : w1.cell? ⟨p, 5, none⟩ = some (.slice A5 x.c.f5.length c5) := (blk_cell DP 5).trans rfl; have hsz1 := Lib.hid (Nat.le_trans hsz.out hb1.size); replace D0 := Lib.hid D0; clear DP hb1 CA hsz BB B0 hblk g2 g5 sm; rw [show ptrE p = .pointer (some ⟨p, 0, none⟩) from rfl]; go_wp2_with fail; refine CC.out.mono ?_; rintro e w2 ⟨v2, v5, rfl, R2, R5, hb2⟩; have D := blk_below D0.out hb2; have BB2 := BB1.out.trans (hb2.mono hsz1.out); have q0 : w2.cell? ⟨w.heap.size, 0, none⟩ = some (.string ⟨#[]⟩) := (blk_cell D 0).trans rfl; have q1 : w2.cell? ⟨w.heap.size, 1, none⟩ = some (.string ⟨#[]⟩) := (blk_cell D 1).trans rfl; have q2 : w2.cell? ⟨w.heap.size, 2, none⟩ = some (.slice none 0 0) := (blk_cell D 2).trans rfl; have q3 : w2.cell? ⟨w.heap.size, 3, none⟩ = some (.int .i64 0) := (blk_cell D 3).trans rfl; have q4 : w2.cell? ⟨w.heap.size, 4, none⟩ = some (.int .i64 0) := (blk_cell D 4).trans rfl; have q5 : w2.cell? ⟨w.heap.size, 5, none⟩ = some (.slice none 0 0) := (blk_cell D 5).trans rfl; have k0 := blk_frozen D 0; have k1 := blk_frozen D 1; have k2 := blk_frozen D 2; have k3 := blk_frozen D 3; have k4 := blk_frozen D 4; have k5 := blk_frozen D 5; have T2 := Lib.hid (R_set6 (Kd.R_lower R2 hsz1.out) D (by decide) (.string x.c.f0) (.string x.c.f1) v2 (.int .i64 x.c.f3) (.int .i64 x.c.f4) v5); have T5 := Lib.hid (R_set6 (Kd.R_lower R5 hsz1.out) D (by decide) (.string x.c.f0) (.string x.c.f1) v2 (.int .i64 x.c.f3) (.int .i64 x.c.f4) v5); have TB := Lib.hid (below_set6 BB2 (g := w.heap.size) (Nat.le_refl _) (.string x.c.f0) (.string x.c.f1) v2 (.int .i64 x.c.f3) (.int .i64 x.c.f4) v5); have TX := Lib.hid (blk_set6 D (.string x.c.f0) (.string x.c.f1) v2 (.int .i64 x.c.f3) (.int .i64 x.c.f4) v5); obtain ⟨A2', c2', rfl⟩ := Kd.R_slice R2; obtain ⟨A5', c5', rfl⟩ := Kd.R_slice R5; clear D D0 BB2 R2 R5 CC hb2; go_wp2
  exact bodyPost_ret (results_ct rfl _ _ w.heap.size 85 _ (0, 0) _ rfl TX.out Tryz.underlying85 rfl (by kernel_rfl)) rfl ⟨_, rfl, ⟨_, _, rfl, T2.out, T5.out⟩, TB.out⟩
 ·have hp : atP ps id = .pointer none := if_neg (by omega)
  have hc : classF es id = (z85, 3) := if_neg hin; rw [hp] at CA; rw [hc]; clear h h' hc hp hs; go_enter Tryz.func58, Tryz.ntmps58; go_wp2_with fail; refine CA.out.mono ?_; rintro e w2 ⟨rfl, hb2⟩; have D := blk_below B0.out hb2; have BB2 := BB.out.trans (hb2.mono hsz.out); have q0 : w2.cell? ⟨w.heap.size, 0, none⟩ = some (.string ⟨#[]⟩) := (blk_cell D 0).trans rfl; have q1 : w2.cell? ⟨w.heap.size, 1, none⟩ = some (.string ⟨#[]⟩) := (blk_cell D 1).trans rfl; have q2 : w2.cell? ⟨w.heap.size, 2, none⟩ = some (.slice none 0 0) := (blk_cell D 2).trans rfl; have q3 : w2.cell? ⟨w.heap.size, 3, none⟩ = some (.int .i64 0) := (blk_cell D 3).trans rfl; have q4 : w2.cell? ⟨w.heap.size, 4, none⟩ = some (.int .i64 0) := (blk_cell D 4).trans rfl; have q5 : w2.cell? ⟨w.heap.size, 5, none⟩ = some (.slice none 0 0) := (blk_cell D 5).trans rfl; have k0 := blk_frozen D 0; have k1 := blk_frozen D 1; have k2 := blk_frozen D 2; have k3 := blk_frozen D 3; have k4 := blk_frozen D 4; have k5 := blk_frozen D 5; have TB := Lib.hid (below_set6 BB2 (g := w.heap.size) (Nat.le_refl _) (.string ⟨#[]⟩) (.string ⟨#[]⟩) (.slice none 0 0) (.int .i64 0) (.int .i64 0) (.slice none 0 0)); have TX := Lib.hid (blk_set6 D (.string ⟨#[]⟩) (.string ⟨#[]⟩) (.slice none 0 0) (.int .i64 0) (.int .i64 0) (.slice none 0 0)); clear D BB2 hb2 CA; go_wp2
  exact bodyPost_ret (results_ct rfl _ _ w.heap.size 85 _ (0, 0) _ rfl TX.out Tryz.underlying85 rfl (by kernel_rfl)) rfl ⟨_, rfl, ⟨_, _, rfl, Kd.R_nil _ _ _ _ _, Kd.R_nil _ _ _ _ _⟩, TB.out⟩
end Go.Proofs.YtaipkdglhfhhiaaGreatDoor.Hi

namespace Go.Proofs.YtaipkdglhfhhiaaGreatDoor.Hi
open Go Go.RowKit Go.Proofs.YtaipkdglhfhhiaaGreatDoorW.PrintWords Go.Proofs.YtaipkdglhfhhiaaGreatDoorW.PrintLast Go.Proofs.YtaipkdglhfhhiaaGreatDoorW.PrintMore Go.Proofs.YtaipkdglhfhhiaaGreatDoor.Pt
set_option linter.unusedVariables false
set_option linter.unusedSimpArgs false
def ent (es : List Ent) (i : Int) : Ent := es.getD i.toNat zE
def inB (es : List Ent) (i : Int) : Bool := decide (0 ≤ i ∧ i < es.length)
def isI (c : S85) : Bool := Go.bits .and .i64 c.f3 512 != 0
def Tree (es : List Ent) : Prop := ∀ (i : Nat) (x : Ent), es[i]? = some x → (x.above = -1 ∧ x.depth = 0) ∨ (0 ≤ x.above ∧ x.above < i ∧ x.depth = (ent es x.above).depth + 1)
def climb (es : List Ent) : Nat → Int → Int → Int
 | 0, a, _ => a
 | k + 1, a, d => if (ent es a).depth > d then climb es k (ent es a).above d else a
def extF (es : List Ent) (a b : Int) : Bool :=
 if inB es a && inB es b then (if isI (ent es b).c then (a == b || (ent es a).clo.contains b) else climb es es.length a (ent es b).depth == b) else false
def chainL (es : List Ent) : Nat → Int → List Int
 | 0, _ => []
 | k + 1, a => a :: (if (ent es a).above < 0 then [] else chainL es k (ent es a).above)
def nameF (es : List Ent) (s : ByteArray) : Int × Int := match (es.map (·.c.f0)).findIdx? (fun t => decide (t = s)) with | some i => ((i : Int), 0) | none => (0, 6)
theorem ent_get {es : List Ent} {i : Nat} {x : Ent} (h : es[i]? = some x) : ent es i = x := by
 simp [ent, List.getD_eq_getElem?_getD, h]
theorem get_ent {es : List Ent} {i : Int} (h0 : 0 ≤ i) (h1 : i < es.length) : es[i.toNat]? = some (ent es i) := by
 rw [ent, List.getD_eq_getElem?_getD, List.getElem?_eq_getElem (by omega)]; rfl
theorem Tree.at_ {es : List Ent} (h : Tree es) {i : Int} (h0 : 0 ≤ i) (h1 : i < es.length) : ((ent es i).above = -1 ∧ (ent es i).depth = 0) ∨ (0 ≤ (ent es i).above ∧ (ent es i).above < i ∧ (ent es i).depth = (ent es (ent es i).above).depth + 1) := by
 rcases h _ _ (get_ent h0 h1) with h | ⟨h2, h3, h4⟩
 ·exact .inl h
 ·exact .inr ⟨h2, by omega, h4⟩
theorem Tree.depth {es : List Ent} (h : Tree es) : ∀ (n : Nat) (i : Int), i.toNat < n → 0 ≤ i → i < es.length → 0 ≤ (ent es i).depth ∧ (ent es i).depth ≤ i
 | 0, i, h0, _, _ => absurd h0 (by omega)
 | n + 1, i, hn, h0, h1 => by
  rcases h.at_ h0 h1 with ⟨_, hd⟩ | ⟨h2, h3, hd⟩
  ·omega
  ·have := Tree.depth h n _ (show (ent es i).above.toNat < n by omega) h2 (by omega)
   omega
theorem Tree.depth_ {es : List Ent} (h : Tree es) {i : Int} (h0 : 0 ≤ i) (h1 : i < es.length) : 0 ≤ (ent es i).depth ∧ (ent es i).depth ≤ i := h.depth (i.toNat + 1) i (by omega) h0 h1
end Go.Proofs.YtaipkdglhfhhiaaGreatDoor.Hi

namespace Go.Proofs.YtaipkdglhfhhiaaGreatDoor.Pt
open Go Go.RowKit Go.Proofs.YtaipkdglhfhhiaaGreatDoor.Hi Go.Proofs.YtaipkdglhfhhiaaGreatDoorW.PrintWords Go.Proofs.YtaipkdglhfhhiaaGreatDoorW.PrintLast Go.Proofs.YtaipkdglhfhhiaaGreatDoorW.PrintMore
set_option linter.unusedVariables false
set_option linter.unusedSimpArgs false
def Fine (x : Ent) : Prop := Small x.c ∧ x.c.f0.size < 4611686018427387904 ∧ x.clo.length ≤ 1000
def TypeAt (w : World) (b t : Nat) : Prop := ∃ cells, w.heap[b]? = some (.cells cells t (0, 0))
theorem TypeAt.below {w w1 : World} {b t : Nat} (h : TypeAt w b t) (hb : Below w.heap.size w w1) : TypeAt w1 b t := by
 obtain ⟨cells, h⟩ := h
 exact ⟨cells, blk_below h hb⟩
theorem TypeAt.alloc {w : World} {b t : Nat} (h : TypeAt w b t) (o : Obj) : TypeAt (w.alloc o) b t := h.below ((Below.refl _ _).alloc (Nat.le_refl _) o)
theorem TypeAt.drewN {w : World} {b t : Nat} (h : TypeAt w b t) (n : Nat) : TypeAt (w.drewN n) b t := h.below (pw_below_drewN (Below.refl _ _) n)
theorem TypeAt.drew {w : World} {b t : Nat} (h : TypeAt w b t) : TypeAt w.drew b t := h.below (below_drew (Below.refl _ _))
theorem TypeAt.setCell {w : World} {b t : Nat} (h : TypeAt w b t) (p : Addr) (u : Value) : TypeAt (w.setCell p u) b t := by
 obtain ⟨cells, h⟩ := h
 by_cases hp : b = p.block
 ·subst hp
  refine ⟨if p.spot.isSome = true then cells else cells.setIfInBounds p.off u, ?_⟩; unfold World.setCell
  show (w.heap.modify p.block _)[p.block]? = _
  rw [Array.getElem?_modify, h]; simp
 ·exact ⟨cells, (Below.heap_setCell w p u b hp).trans h⟩
theorem WIn_setT {w : World} {base g : Nat} {v : Value} {mb : Nat} {ps : List Nat} {es : List Ent} (h : WIn w base g v mb ps es) {b t : Nat} {cells : Array Value} (hb : w.heap[b]? = some (.cells cells t (0, 0)))
  (ht : ∀ q, q ∈ 133 :: 150 :: 147 :: kE.E → q ≠ t) (j : Nat) (u : Value) : WIn (w.setCell ⟨b, j, none⟩ u) base g v mb ps es := by
 refine ⟨h.hg, blk_far (p := ⟨b, j, none⟩) h.blk (blk_ne h.blk hb (ht _ List.mem_cons_self)) u, ?_, h.len, fun i x p hx hp => ?_, h.mbl, ?_⟩
 ·exact Kd.R_set h.row hb (fun q hq => ht q (by
   rcases List.mem_cons.1 hq with rfl | hq
   ·simp
   ·cases hq)) j u
 ·obtain ⟨h1, cs, h2, h3⟩ := h.ent i x p hx hp
  exact ⟨h1, cs, blk_far (p := ⟨b, j, none⟩) h2 (blk_ne h2 hb (ht _ (by simp))) u, kE.M_mono (fun _ hk => trivial) (Kd.M_far (p := ⟨b, j, none⟩) (Kd.M_types h3 hb (fun q hq => ht q (by simp [hq]))) (fun _ hk => hk.2) u)⟩
 ·obtain ⟨D, h1, h2⟩ := h.map
  obtain ⟨es1, clock, hbk, F, hs, rfl⟩ := h1
  have hne : mb ≠ b := by
   rintro rfl; rw [hb] at hbk
   cases hbk
  exact ⟨_, ⟨es1, clock, (Below.heap_setCell w ⟨b, j, none⟩ u mb hne).trans hbk, F, hs, rfl⟩, h2⟩
structure WOK (w : World) (g : Nat) (es : List Ent) : Prop where
 inn : ∃ base v mb ps, WIn w base g v mb ps es
 fine : ∀ x ∈ es, Fine x
 tree : Tree es
 len : es.length ≤ 1000
theorem WOK.below {w w1 : World} {g : Nat} {es : List Ent} (h : WOK w g es) (hb : Below w.heap.size w w1) : WOK w1 g es := by
 obtain ⟨⟨base, v, mb, ps, hi⟩, h2, h3, h4⟩ := h
 exact ⟨⟨base, v, mb, ps, hi.below hb⟩, h2, h3, h4⟩
theorem WOK.alloc {w : World} {g : Nat} {es : List Ent} (h : WOK w g es) (o : Obj) : WOK (w.alloc o) g es := h.below ((Below.refl _ _).alloc (Nat.le_refl _) o)
theorem WOK.drewN {w : World} {g : Nat} {es : List Ent} (h : WOK w g es) (n : Nat) : WOK (w.drewN n) g es := h.below (pw_below_drewN (Below.refl _ _) n)
theorem WOK.drew {w : World} {g : Nat} {es : List Ent} (h : WOK w g es) : WOK w.drew g es := h.below (below_drew (Below.refl _ _))
theorem WOK.set {w : World} {g : Nat} {es : List Ent} {b t : Nat} (h : WOK w g es) (hb : TypeAt w b t) (ht : ∀ q, q ∈ 133 :: 150 :: 147 :: kE.E → q ≠ t) (j : Nat) (u : Value) : WOK (w.setCell ⟨b, j, none⟩ u) g es := by
 obtain ⟨⟨base, v, mb, ps, hi⟩, h2, h3, h4⟩ := h; obtain ⟨cells, hb⟩ := hb
 exact ⟨⟨base, v, mb, ps, WIn_setT hi hb ht j u⟩, h2, h3, h4⟩
theorem WOK.small {w : World} {g : Nat} {es : List Ent} (h : WOK w g es) : ∀ x ∈ es, Small x.c := fun x hx => (h.fine x hx).1
end Go.Proofs.YtaipkdglhfhhiaaGreatDoor.Pt

namespace Go.Proofs.YtaipkdglhfhhiaaGreatDoor.Hi
open Go Go.RowKit Go.Proofs.YtaipkdglhfhhiaaGreatDoorW.PrintWords Go.Proofs.YtaipkdglhfhhiaaGreatDoorW.PrintLast Go.Proofs.YtaipkdglhfhhiaaGreatDoorW.PrintMore Go.Proofs.YtaipkdglhfhhiaaGreatDoor.Pt
set_option linter.unusedVariables false
set_option linter.unusedSimpArgs false
set_option maxHeartbeats 2000000
set_option maxRecDepth 100000
def addI (clo : List Int) (id : Int) : List Int := if clo.contains id then clo else clo ++ [id]
theorem contains_R {w : World} {e B : Nat} {ok : Nat → Prop} {v : Value} {clo : List Int} (h : Kd.R (Kd.int .i64) e w B ok v clo) (hl : clo.length ≤ 1000000) (id : Int) :
  Calls Tryz.prog 101 #[v, .int .i64 id] w fun e w' => e = .returned (.bool (clo.contains id)) ∧ w' = w := by
 obtain ⟨A, c, rfl, hc⟩ := own_reads (Kd.own_of_R h)
 rcases Nat.eq_zero_or_pos clo.length with h0 | h0
 ·obtain rfl := List.eq_nil_of_length_eq_zero h0
  exact Tryz.slices_Contains_int_empty A c id w
 ·obtain ⟨g, cap, eg, _⟩ := Kd.R_form h h0
  injection eg with e1 e2 e3; subst e1 e3
  have C := Tryz.slices_Contains_int g 0 clo.length c clo id w (Nat.le_refl _) (by omega) (fun j hj => by
   obtain ⟨ad, ea, hx⟩ := hc.2.2 h0; injection ea with ea; subst ea; have := hx j hj; rw [add_plain] at this
   rwa [Nat.zero_add])
  rwa [List.take_length] at C
theorem info_int : (Tryz.prog.info? 3).map (fun i => (i.zero, i.size, i.bytes)) = some (some (.int .i64 0), ((Kd.int .i64)).sz, 8) := by kernel_rfl
attribute [local go_sem ↓] Go.wp_at_zero Go.wp_at_succ
theorem add_any (w : World) (B pe be : Nat) (x0 x1 x2 x3 x4 x5 x6 x7 v8 : Value) (clo : List Int) (id : Int)
  (hbe : w.heap[be]? = some (.cells #[ptrE pe] 147 (0, 0))) (hpe : w.heap[pe]? = some (.cells #[x0, x1, x2, x3, x4, x5, x6, x7, v8] 150 (0, 0)))
  (h8 : Kd.R (Kd.int .i64) 3 w B (fun _ => True) v8 clo) (hB : B ≤ pe) (hBs : B ≤ w.heap.size) (hl : clo.length ≤ 1000000) :
  Calls Tryz.prog 109 #[.int .i64 id, .pointer (some ⟨be, 0, none⟩)] w fun e w' => e = .returned (.tuple #[]) ∧ ∃ v8', w'.heap[be]? = some (.cells #[ptrE pe] 147 (0, 0)) ∧ w'.heap[pe]? = some (.cells #[x0, x1, x2, x3, x4, x5, x6, x7, v8'] 150 (0, 0)) ∧
   Kd.R (Kd.int .i64) 3 w' B (fun _ => True) v8' (addI clo id) ∧ Below B w w' ∧ ∀ (k : Nat) (o : Obj), w.heap[k]? = some o → k ≠ pe → some k ≠ v8.ownBlock → w'.heap[k]? = some o := by
 obtain ⟨A8, c8, rfl⟩ := Kd.R_slice h8; have q0 : w.cell? ⟨be, 0, none⟩ = some (.pointer (some ⟨pe, 0, none⟩)) := (blk_cell hbe 0).trans rfl; have q8 : w.cell? ⟨pe, 8, none⟩ = some (.slice A8 clo.length c8) := (blk_cell hpe 8).trans rfl; have k8 := blk_frozen hpe 8; have C := Lib.hid (contains_R h8 hl id); have HB := Lib.hid hbe; have HP := Lib.hid hpe; have H8 := Lib.hid h8; have hlp : pe < w.heap.size := blk_lt hpe; have hlb : be < w.heap.size := blk_lt hbe; have hnp := Lib.hid (Kd.R_ne h8 hpe (by decide)); have hnb := Lib.hid (Kd.R_ne h8 hbe (by decide)); have hne : be ≠ pe := blk_ne hbe hpe (by decide); clear hbe hpe h8
 by_cases hc : clo.contains id = true
 ·have HA : Hid (addI clo id = clo) := Lib.hid (if_pos hc)
  rw [hc] at C; go_enter Tryz.func109, Tryz.ntmps109; go_wp2_with (go_at_call 101; refine C.out.mono ?_; rintro e w1 ⟨rfl, rfl⟩)
  go_end0
  exact ⟨rfl, _, HB.out, HP.out, by rw [HA.out]; exact H8.out, Below.refl _ _, fun k o h _ _ => h⟩
 ·have HA : Hid (addI clo id = clo ++ [id]) := Lib.hid (if_neg hc)
  rw [show clo.contains id = false by simpa using hc] at C; go_enter Tryz.func109, Tryz.ntmps109; go_wp2_with (go_at_call 101; refine C.out.mono ?_; rintro e w1 ⟨rfl, rfl⟩)
  go_region_law (first | (refine Kd.R_append_step (Kd.int .i64) (W := w1.drew) (w0 := w1) B (by rfl) (.tmp 14) (.tmp 16) 49 3 (.int .i64 0) 8 (by rfl) Tryz.underlying49 info_int rfl (by decide) (by omega) _ clo id [.int .i64 id] (fun _ => True) (fun _ => False) (by rfl) (by rfl) rfl (fun _ h => h.elim) (fun _ _ => trivial) (Kd.R_below H8.out (below_drew1 (Below.refl _ _))) (below_drew1 (Below.refl _ _)) hBs (by omega) ?_; intro v1 w2 h1 h2 h3 h4; obtain ⟨A9, c9, rfl⟩ := Kd.R_slice h1; rw [show (clo ++ [id]).length = clo.length + 1 by simp] at h1; replace h1 := Lib.hid h1; replace h2 := Lib.hid h2; replace h3 := Lib.hid h3; have kx := (h3.out.frozen_far ⟨pe, 8, none⟩ (blk_lt HP.out) hnp.out).trans k8; have qb := (h3.out.cell_far ⟨be, 0, none⟩ (blk_lt HB.out) hnb.out).trans q0; have qp := (h3.out.cell_far ⟨pe, 8, none⟩ (blk_lt HP.out) hnp.out).trans q8; clear h4))
  all_goals go_end0
  all_goals exact ⟨rfl, _, blk_far (p := ⟨pe, 8, none⟩) (blk_grown (w := w1.drew) HB.out h3.out hnb.out) hne _, blk_put (blk_grown (w := w1.drew) HP.out h3.out hnp.out) 8 _ rfl, by rw [HA.out]; exact Kd.R_set h1.out (blk_grown (w := w1.drew) HP.out h3.out hnp.out) (by decide) 8 _, h2.out.setCell (p := ⟨pe, 8, none⟩) hB _, fun k o h h1 h2 => (Below.heap_setCell w2 ⟨pe, 8, none⟩ _ k h1).trans ((h3.out.block k (blk_lt (w := w1) h) h2).trans h)⟩
end Go.Proofs.YtaipkdglhfhhiaaGreatDoor.Hi

namespace Go.Proofs.YtaipkdglhfhhiaaGreatDoor.Hi
open Go Go.RowKit Go.Proofs.YtaipkdglhfhhiaaGreatDoorW.PrintWords Go.Proofs.YtaipkdglhfhhiaaGreatDoorW.PrintLast Go.Proofs.YtaipkdglhfhhiaaGreatDoorW.PrintMore Go.Proofs.YtaipkdglhfhhiaaGreatDoor.Pt
set_option linter.unusedVariables false
set_option linter.unusedSimpArgs false
set_option maxHeartbeats 2000000
set_option maxRecDepth 100000
def foldI (l acc : List Int) : List Int := l.foldl addI acc
def closF (es : List Ent) (acc : List Int) (ifs : List Int) : List Int := ifs.foldl (fun a i => addI (foldI (ent es i).clo a) i) acc
def putE (es : List Ent) (c : S85) (above : Int) (ifs : List Int) : Ent := ⟨c, above, if above ≥ 0 then (ent es above).depth + 1 else 0, closF es (if above ≥ 0 then (ent es above).clo else []) ifs⟩
def Rng (n : Nat) (l : List Int) : Prop := l.Nodup ∧ ∀ x ∈ l, 0 ≤ x ∧ x < n
theorem Rng.nil (n : Nat) : Rng n [] := ⟨List.nodup_nil, fun x hx => by cases hx⟩
theorem Rng.add {n : Nat} {l : List Int} (h : Rng n l) {i : Int} (h0 : 0 ≤ i) (h1 : i < n) : Rng n (addI l i) := by
 unfold addI
 split
 ·exact h
 ·rename_i hc
  have hc : i ∉ l := by simpa using hc
  refine ⟨List.nodup_append.2 ⟨h.1, by simp, fun a ha b hb => ?_⟩, fun x hx => ?_⟩
  ·rw [List.mem_singleton.1 hb]
   rintro rfl
   exact hc ha
  ·rcases List.mem_append.1 hx with hx | hx
   ·exact h.2 x hx
   ·rw [List.mem_singleton.1 hx]; exact ⟨h0, h1⟩
theorem Rng.len {n : Nat} : ∀ {l : List Int}, Rng n l → l.length ≤ n := by
 induction n with
 | zero =>
  intro l h
  cases l with
  | nil => simp
  | cons a l => have := h.2 a (by simp); omega
 | succ n ih =>
  intro l h
  have h2 : Rng n (l.erase (n : Int)) := by
   refine ⟨h.1.erase _, fun x hx => ?_⟩; have h3 := h.2 x (List.mem_of_mem_erase hx)
   have h4 : x ≠ (n : Int) := fun e => by
    subst e
    exact (List.Nodup.not_mem_erase h.1) hx
   omega
  have h5 := ih h2
  have h6 : l.length ≤ (l.erase (n : Int)).length + 1 := by
   rw [List.length_erase]
   split <;> omega
  omega
theorem Rng.fold {n : Nat} : ∀ {ks l : List Int}, Rng n l → (∀ x ∈ ks, 0 ≤ x ∧ x < n) → Rng n (foldI ks l)
 | [], l, h, _ => h
 | k :: ks, l, h, hk => Rng.fold (ks := ks) (h.add (hk k (by simp)).1 (hk k (by simp)).2) (fun x hx => hk x (by simp [hx]))
theorem foldI_take {l acc : List Int} {j : Nat} {x : Int} (h : l[j]? = some x) : foldI (l.take (j + 1)) acc = addI (foldI (l.take j) acc) x := by
 unfold foldI; rw [List.take_add_one, h, List.foldl_append]
 rfl
theorem closF_take {es : List Ent} {acc ifs : List Int} {j : Nat} {x : Int} (h : ifs[j]? = some x) : closF es acc (ifs.take (j + 1)) = addI (foldI (ent es x).clo (closF es acc (ifs.take j))) x := by
 unfold closF; rw [List.take_add_one, h, List.foldl_append]
 rfl
theorem Rng.clos {n : Nat} {es : List Ent} (he : ∀ x ∈ es, Rng n x.clo) : ∀ {ifs acc : List Int}, Rng n acc → (∀ i ∈ ifs, 0 ≤ i ∧ i < es.length) → es.length ≤ n → Rng n (closF es acc ifs)
 | [], acc, h, _, _ => h
 | i :: ifs, acc, h, hi, hn => by
  have h1 := hi i (by simp); have hm : ent es i ∈ es := List.mem_of_getElem? (get_ent h1.1 h1.2)
  exact Rng.clos he (ifs := ifs) ((h.fold (he _ hm).2).add h1.1 (by omega)) (fun x hx => hi x (by simp [hx])) hn
end Go.Proofs.YtaipkdglhfhhiaaGreatDoor.Hi

namespace Go.Proofs.YtaipkdglhfhhiaaGreatDoor.Hi
open Go Go.RowKit Go.Proofs.YtaipkdglhfhhiaaGreatDoorW.PrintWords Go.Proofs.YtaipkdglhfhhiaaGreatDoorW.PrintLast Go.Proofs.YtaipkdglhfhhiaaGreatDoorW.PrintMore Go.Proofs.YtaipkdglhfhhiaaGreatDoor.Pt
set_option linter.unusedVariables false
set_option linter.unusedSimpArgs false
theorem M_push {α : Type} {d : Kd α} {w w2 : World} {base : Nat} {x : α} {cs : List Value} (h : d.M w base (fun _ => True) x cs) {u : Value} {e size n B : Nat} {inner : List Value} (ho : w.ownsRow B e size u n inner) (hg : w.grownBy w2 u.ownBlock)
  {g t : Nat} {cells : Array Value} (hb : w.heap[g]? = some (.cells cells t (0, 0))) (he : ∀ q, q ∈ d.E → q ≠ e) (ht : ∀ q, q ∈ d.E → q ≠ t) (j : Nat) (z : Value) : d.M (w2.setCell ⟨g, j, none⟩ z) base (fun _ => True) x cs := by
 have h1 : d.M w base (fun k => True ∧ some k ≠ u.ownBlock ∧ k ≠ g) x cs := d.M_mono (fun k hk => ⟨trivial, fun ek => by
  obtain ⟨_, _, _, q, hq, c, hc⟩ := hk; obtain ⟨c', hc'⟩ := own_typed ho k ek.symm; rw [hc] at hc'; injection hc' with hc'; injection hc' with _ hc'
  exact he q hq hc', fun ek => by
  obtain ⟨_, _, _, q, hq, c, hc⟩ := hk; subst ek; rw [hc] at hb; injection hb with hb; injection hb with _ hb
  exact ht q hq hb⟩) (d.M_bound h)
 have h2 : d.M (w2.setCell ⟨g, j, none⟩ z) base (fun k => True ∧ some k ≠ u.ownBlock ∧ k ≠ g) x cs := Kd.M_step h1 (fun k hk hlt => (Below.heap_setCell w2 ⟨g, j, none⟩ z k hk.2.2).trans (hg.block k hlt hk.2.1))
 exact d.M_mono (fun _ _ => trivial) h2
theorem WIn.push {w w2 : World} {base g : Nat} {v v' : Value} {mb : Nat} {ps : List Nat} {es : List Ent} (h : WIn w base g v mb ps es) (hg : w.grownBy w2 v.ownBlock) {p : Nat} (hrow : Kd.R kP 147 w2 base (fun _ => True) v' (ps ++ [p]))
  {x : Ent} {cells : Array Value} (hp : w.heap[p]? = some (.cells cells 150 (0, 0))) (hx : kE.M w base (fun _ => True) x cells.toList) (hbp : base ≤ p) :
  let W := w2.setCell ⟨g, 0, none⟩ v'
  W.heap[g]? = some (.cells #[v', .map (some mb)] 133 (0, 0)) ∧ Kd.R kP 147 W base (fun _ => True) v' (ps ++ [p]) ∧
  (∀ (j : Nat) (y : Ent) (q : Nat), (es ++ [x])[j]? = some y → (ps ++ [p])[j]? = some q → base ≤ q ∧ ∃ cells, W.heap[q]? = some (.cells cells 150 (0, 0)) ∧ kE.M W base (fun _ => True) y cells.toList) ∧
  ∃ D : DataW Unit, W.ownsMap Tryz.prog 9 (plainElem Tryz.prog 3) mb es.length D ∧ MapSays D (es.map (·.c.f0)) := by
 intro W; obtain ⟨inner, ho⟩ := Kd.R_own h.row; have hgn : some g ≠ v.ownBlock := Kd.R_ne h.row h.blk (by decide); have hg2 := blk_grown h.blk hg hgn; refine ⟨blk_put hg2 0 v' rfl, Kd.R_set hrow hg2 (by decide) 0 v', ?_, ?_⟩
 ·intro j y q hy hq
  have hpg : ∀ {q : Nat} {cs : Array Value}, w.heap[q]? = some (.cells cs 150 (0, 0)) → W.heap[q]? = some (.cells cs 150 (0, 0)) := fun {q cs} hq => blk_far (p := ⟨g, 0, none⟩) (blk_grown hq hg (Kd.R_ne h.row hq (by decide))) (blk_ne hq h.blk (by decide)) v'
  by_cases hj : j < es.length
  ·rw [List.getElem?_append_left hj] at hy
   rw [List.getElem?_append_left (by rw [h.len]; exact hj)] at hq; obtain ⟨h1, cs, h2, h3⟩ := h.ent j y q hy hq
   exact ⟨h1, cs, hpg h2, M_push h3 ho hg h.blk (by decide) (by decide) 0 v'⟩
  ·have hj2 : j = es.length := by
    have := (List.getElem?_eq_some_iff.1 hy).1; simp at this
    omega
   subst hj2; rw [List.getElem?_append_right (Nat.le_refl _)] at hy; rw [← h.len, List.getElem?_append_right (Nat.le_refl _)] at hq; simp at hy hq; subst hy hq
   exact ⟨hbp, cells, hpg hp, M_push hx ho hg h.blk (by decide) (by decide) 0 v'⟩
 ·obtain ⟨D, h1, h2⟩ := h.map
  have hmb : some mb ≠ v.ownBlock := fun e => by
   obtain ⟨c, hc⟩ := own_typed ho mb e.symm; obtain ⟨es1, clock, hbk, _⟩ := h1; rw [hbk] at hc
   cases hc
  have hne : mb ≠ g := fun e => by
   obtain ⟨es1, clock, hbk, _⟩ := h1; have := h.blk; rw [e, this] at hbk
   cases hbk
  exact ⟨D, (h1.kept hg hmb).setCell (a := ⟨g, 0, none⟩) hne v', h2⟩
theorem WIn.mapped {W w3 : World} {base g : Nat} {v' : Value} {mb : Nat} {ps : List Nat} {es : List Ent}
  (hg : base ≤ g) (hblk : W.heap[g]? = some (.cells #[v', .map (some mb)] 133 (0, 0))) (hrow : Kd.R kP 147 W base (fun _ => True) v' ps) (hlen : ps.length = es.length)
  (hent : ∀ (j : Nat) (y : Ent) (q : Nat), es[j]? = some y → ps[j]? = some q → base ≤ q ∧ ∃ cells, W.heap[q]? = some (.cells cells 150 (0, 0)) ∧ kE.M W base (fun _ => True) y cells.toList) (hmb : base ≤ mb)
  {es1 : Array MapEntry} {clock : Nat} (hm : W.heap[mb]? = some (.map es1 clock)) (hgr : W.grownBy w3 (some mb)) {D : DataW Unit} (hD : w3.ownsMap Tryz.prog 9 (plainElem Tryz.prog 3) mb es.length D) (hs : MapSays D (es.map (·.c.f0))) :
  WIn w3 base g v' mb ps es := by
 have hk : ∀ {k : Nat} {cs : Array Value} {t : Nat}, W.heap[k]? = some (.cells cs t (0, 0)) → some k ≠ some mb := fun {k cs t} h e => by
  injection e with e; subst e; rw [h] at hm
  cases hm
 have hmv : ∀ {α : Type} {d : Kd α} {x : α} {cs : List Value}, d.M W base (fun _ => True) x cs → d.M w3 base (fun _ => True) x cs := fun {α d x cs} h => by
  have h1 := d.M_bound h
  exact d.M_mono (fun _ _ => trivial) (d.M_move (fun k hk2 => by
   obtain ⟨_, _, hlt, q, hq, c, hc⟩ := hk2
   exact hgr.block k hlt (hk hc)) h1)
 refine ⟨hg, blk_grown hblk hgr (hk hblk), ?_, hlen, fun j y q hy hq => ?_, hmb, D, hD, hs⟩
 ·have h1 := Kd.R_bound hrow
  exact Kd.R_mono (Kd.R_move h1 (fun k hk2 => by
   obtain ⟨_, _, hlt, q, hq, c, hc⟩ := hk2
   exact hgr.block k hlt (hk hc))) (fun _ _ => trivial)
 ·obtain ⟨h1, cs, h2, h3⟩ := hent j y q hy hq
  exact ⟨h1, cs, blk_grown h2 hgr (hk h2), hmv h3⟩
end Go.Proofs.YtaipkdglhfhhiaaGreatDoor.Hi

namespace Go.Proofs.YtaipkdglhfhhiaaGreatDoor.Hi
open Go Go.RowKit Go.Proofs.YtaipkdglhfhhiaaGreatDoorW.PrintWords Go.Proofs.YtaipkdglhfhhiaaGreatDoorW.PrintLast Go.Proofs.YtaipkdglhfhhiaaGreatDoorW.PrintMore Go.Proofs.YtaipkdglhfhhiaaGreatDoor.Pt
set_option linter.unusedVariables false
set_option linter.unusedSimpArgs false
set_option maxHeartbeats 4000000
set_option maxRecDepth 100000
theorem info_P : (Tryz.prog.info? 147).map (fun i => (i.zero, i.size, i.bytes)) = some (some (.pointer none), kP.sz, 8) := by kernel_rfl
theorem three_new (w : World) (o1 o2 o3 : Obj) : (((w.alloc o1).alloc o2).alloc o3).heap[w.heap.size]? = some o1 ∧ (((w.alloc o1).alloc o2).alloc o3).heap[w.heap.size + 1]? = some o2 ∧ (((w.alloc o1).alloc o2).alloc o3).heap[w.heap.size + 1 + 1]? = some o3 ∧ Below w.heap.size w (((w.alloc o1).alloc o2).alloc o3) := by
 have e1 : (w.alloc o1).heap.size = w.heap.size + 1 := by simp
 have e2 : ((w.alloc o1).alloc o2).heap.size = w.heap.size + 1 + 1 := by simp
 refine ⟨blk_alloc (blk_alloc (blk_new w o1) o2) o3, ?_, ?_, ?_⟩
 ·have := blk_alloc (blk_new (w.alloc o1) o2) o3
  rwa [e1] at this
 ·have := blk_new ((w.alloc o1).alloc o2) o3
  rwa [e2] at this
 ·exact (((Below.refl _ _).alloc (Nat.le_refl _) _).alloc (by omega) _).alloc (by omega) _
theorem WIn_all_at {w : World} {base g : Nat} {A : Option Addr} {n c : Nat} {mb : Nat} {ps : List Nat} {es : List Ent} (h : WIn w base g (.slice A n c) mb ps es) {i : Int} (h0 : 0 ≤ i) (h1 : i < es.length) :
  n = es.length ∧ ∃ ad p A2 c2 A5 c5 A8 c8, A = some ad ∧ w.cell? (ad.add i.toNat) = some (.pointer (some ⟨p, 0, none⟩)) ∧
   w.heap[p]? = some (.cells #[.string (ent es i).c.f0, .string (ent es i).c.f1, .slice A2 (ent es i).c.f2.length c2, .int .i64 (ent es i).c.f3, .int .i64 (ent es i).c.f4, .slice A5 (ent es i).c.f5.length c5, .int .i64 (ent es i).above, .int .i64 (ent es i).depth, .slice A8 (ent es i).clo.length c8] 150 (0, 0)) ∧
   Kd.C Kd.string w A2 (ent es i).c.f2.length (ent es i).c.f2 ∧ Kd.C k105 w A5 (ent es i).c.f5.length (ent es i).c.f5 ∧ Kd.C (Kd.int .i64) w A8 (ent es i).clo.length (ent es i).clo := by
 have hl := h.len; obtain ⟨p, cells, hp, hb, hK⟩ := h.at_ h0 h1; obtain ⟨A', c', ev, hlc, RC⟩ := Kd.R_reads h.row; injection ev with e1 e2 e3; subst e1 e3; refine ⟨by omega, ?_⟩; obtain ⟨ad, cc, ea, hcl, hKK, hcell⟩ := Kd.C_get RC 0 i h0 (by omega); obtain rfl : cc = [ptrE (ps.getD i.toNat 0)] := hKK; have hc := hcell 0 _ rfl; rw [show kP.sz = 1 from rfl, Nat.mul_one, Nat.add_zero] at hc; rw [show atP ps i = ptrE (ps.getD i.toNat 0) from if_pos ⟨h0, by omega⟩] at hp; rw [hp] at hc; obtain ⟨A2, c2, A5, c5, A8, c8, hcs, l2, g2, l5, g5, l8, g8⟩ := kE_open hK; have hcs := Array.toList_inj.1 hcs; rw [hcs] at hb
 exact ⟨ad, p, A2, c2, A5, c5, A8, c8, ea, hc, hb, g2, g5, g8⟩
def KeptT (w w' : World) : Prop := ∀ (k : Nat) (cells : Array Value) (t : Nat), w.heap[k]? = some (.cells cells t (0, 0)) → t ≠ 133 → t ≠ 147 → w'.heap[k]? = some (.cells cells t (0, 0))
theorem KeptT.of_below {w w' : World} (h : Below w.heap.size w w') : KeptT w w' := fun k cells t hk _ _ => blk_below hk h
theorem KeptT.trans {w w1 w2 : World} (h : KeptT w w1) (h2 : KeptT w1 w2) : KeptT w w2 := fun k cells t hk h3 h4 => h2 k cells t (h k cells t hk h3 h4) h3 h4
structure Lay (w wr : World) (x0 x1 x2 x3 x4 x5 : Value) (ab dp : Int) (clo : List Int) : Prop where
 b5 : wr.heap[w.heap.size]? = some (.cells #[x0, x1, x2, x3, x4, x5] 85 (0, 0))
 pe : ∃ v8, wr.heap[w.heap.size + 1]? = some (.cells #[x0, x1, x2, x3, x4, x5, .int .i64 ab, .int .i64 dp, v8] 150 (0, 0)) ∧ Kd.R (Kd.int .i64) 3 wr w.heap.size (fun _ => True) v8 clo
 be : wr.heap[w.heap.size + 1 + 1]? = some (.cells #[ptrE (w.heap.size + 1)] 147 (0, 0))
 hb : Below w.heap.size w wr
theorem Lay.below {w wr wr1 : World} {x0 x1 x2 x3 x4 x5 : Value} {ab dp : Int} {clo : List Int} (h : Lay w wr x0 x1 x2 x3 x4 x5 ab dp clo) (hb : Below wr.heap.size wr wr1) : Lay w wr1 x0 x1 x2 x3 x4 x5 ab dp clo := by
 obtain ⟨h1, ⟨v8, h2, h3⟩, h4, h5⟩ := h
 exact ⟨blk_below h1 hb, ⟨v8, blk_below h2 hb, Kd.R_below h3 hb⟩, blk_below h4 hb, h5.trans (hb.mono h5.size)⟩
theorem Lay.add {w wr : World} {x0 x1 x2 x3 x4 x5 : Value} {ab dp : Int} {clo : List Int} (h : Lay w wr x0 x1 x2 x3 x4 x5 ab dp clo) (hl : clo.length ≤ 1000) (id : Int) :
  Calls Tryz.prog 109 #[.int .i64 id, .pointer (some ⟨w.heap.size + 1 + 1, 0, none⟩)] wr fun e w' => e = .returned (.tuple #[]) ∧ Lay w w' x0 x1 x2 x3 x4 x5 ab dp (addI clo id) := by
 obtain ⟨h1, ⟨v8, h2, h3⟩, h4, h5⟩ := h; have hlt := blk_lt h1; refine (add_any wr w.heap.size (w.heap.size + 1) (w.heap.size + 1 + 1) _ _ _ _ _ _ _ _ v8 clo id h4 h2 h3 (by omega) h5.size (by omega)).mono ?_; rintro e w' ⟨rfl, v9, g4, g2, g3, hb, hk⟩
 exact ⟨rfl, hk _ _ h1 (by omega) (Kd.R_ne h3 h1 (by decide)), ⟨v9, g2, g3⟩, g4, h5.trans hb⟩
def depF (es : List Ent) (above : Int) : Int := if above ≥ 0 then (ent es above).depth + 1 else 0
def cloF (es : List Ent) (above : Int) : List Int := if above ≥ 0 then (ent es above).clo else []
theorem put_any (w : World) (base g : Nat) (v : Value) (mb : Nat) (ps : List Nat) (es : List Ent) (h : WIn w base g v mb ps es) (hbs : base ≤ w.heap.size)
  (f0 f1 : ByteArray) (v2 v5 : Value) (l2 : List ByteArray) (f3 f4 : Int) (l5 : List S105) (R2 : Kd.R Kd.string 9 w base (fun _ => True) v2 l2) (R5 : Kd.R k105 105 w base (fun _ => True) v5 l5)
  (above : Int) (ha : above = -1 ∨ (0 ≤ above ∧ above < es.length)) (Ai : Option Addr) (ci : Nat) (ifs : List Int) (hi : Kd.C (Kd.int .i64) w Ai ifs.length ifs) (hr : ∀ i ∈ ifs, 0 ≤ i ∧ i < es.length)
  (hlen : es.length ≤ 1000) (hclo : ∀ x ∈ es, Rng es.length x.clo ∧ 0 ≤ x.depth ∧ x.depth ≤ 1000) (hil : ifs.length ≤ 1000) (hn : f0 ∉ es.map (·.c.f0)) (hs : f0.size ≤ 9223372036854775807) :
  Calls Tryz.prog 85 #[.pointer (some ⟨g, 0, none⟩), .agg #[.string f0, .string f1, v2, .int .i64 f3, .int .i64 f4, v5], .int .i64 above, .slice Ai ifs.length ci] w fun e w' =>
   e = .returned (.int .i64 es.length) ∧ ∃ v' p, WIn w' base g v' mb (ps ++ [p]) (es ++ [putE es ⟨f0, f1, l2, f3, f4, l5⟩ above ifs]) ∧ Below base w w' ∧ KeptT w w' := by
 obtain ⟨A2, c2, rfl⟩ := Kd.R_slice R2; obtain ⟨A5, c5, rfl⟩ := Kd.R_slice R5; have H := Lib.hid h; have HR2 := Lib.hid R2; have HR5 := Lib.hid R5; have HI := Lib.hid hi; have HRI := Lib.hid hr; have HC := Lib.hid hclo; have HN := Lib.hid hn; have hgl := blk_lt h.blk; have qg0 : w.cell? ⟨g, 0, none⟩ = some v := (blk_cell h.blk 0).trans rfl; have qg1 : w.cell? ⟨g, 1, none⟩ = some (.map (some mb)) := (blk_cell h.blk 1).trans rfl; obtain ⟨Av, cv, rfl⟩ := Kd.R_slice h.row; clear h R2 R5 hi hr hclo hn; go_enter Tryz.func85, Tryz.ntmps85
 go_upto_region 1 with (fail)
 go_cut [9] (fun v9 wc => v9 = .pointer (some ⟨w.heap.size + 1 + 1, 0, none⟩) ∧ Hid (wc.heap[w.heap.size]? = some (.cells #[.string f0, .string f1, .slice A2 l2.length c2, .int .i64 f3, .int .i64 f4, .slice A5 l5.length c5] 85 (0, 0))) ∧ Hid (wc.heap[w.heap.size + 1]? = some (.cells #[.string f0, .string f1, .slice A2 l2.length c2, .int .i64 f3, .int .i64 f4, .slice A5 l5.length c5, .int .i64 above, .int .i64 0, .slice none 0 0] 150 (0, 0))) ∧ Hid (wc.heap[w.heap.size + 1 + 1]? = some (.cells #[ptrE (w.heap.size + 1)] 147 (0, 0))) ∧ Hid (Below w.heap.size w wc))
 case first =>
  go_wp2; go_meet
  case rel => exact ⟨rfl, Lib.hid (three_new _ _ _ _).1, Lib.hid (three_new _ _ _ _).2.1, Lib.hid (three_new _ _ _ _).2.2.1, Lib.hid (three_new _ _ _ _).2.2.2⟩
 case rest =>
  obtain ⟨rfl, B5, PE, BE, HB⟩ := hcut
  go_upto_if 21 with (fail)
  go_cut [] (fun wc => Hid (Lay w wc (.string f0) (.string f1) (.slice A2 l2.length c2) (.int .i64 f3) (.int .i64 f4) (.slice A5 l5.length c5) above (depF es above) (cloF es above)))
  case first =>
   by_cases h0 : 0 ≤ above
   ·have hd : decide (0 ≤ above) = true := decide_eq_true h0
    have h1 : above < es.length := by omega
    have e1 : Hid (depF es above = (ent es above).depth + 1) := Lib.hid (if_pos h0); have e2 : Hid (cloF es above = (ent es above).clo) := Lib.hid (if_pos h0); obtain ⟨hnl, ad, p, A2', c2', A5', c5', A8', c8', rfl, hrow, hent, g2, g5, g8⟩ := WIn_all_at H.out h0 h1; have hm : ent es above ∈ es := List.mem_of_getElem? (get_ent h0 h1); have hdep := (HC.out _ hm).2; have hxl := Lib.hid (show (ent es above).clo.length * 8 ≤ 140737488355328 by have := (HC.out _ hm).1.len; omega); generalize ent es above = x at *; have hpl : p < w.heap.size := blk_lt hent; have hp7 : w.cell? ⟨p, 7, none⟩ = some (.int .i64 x.depth) := (blk_cell hent 7).trans rfl; have hp8 : w.cell? ⟨p, 8, none⟩ = some (.slice A8' x.clo.length c8') := (blk_cell hent 8).trans rfl; clear g2 g5 hm hent; replace hrow := Lib.hid hrow; replace hp7 := Lib.hid hp7; replace hp8 := Lib.hid hp8; replace g8 := Lib.hid g8
    have hlt : above < (ps.length : Int) := by omega
    have hb0 : wc.cell? ⟨w.heap.size + 1 + 1, 0, none⟩ = some (.pointer (some ⟨w.heap.size + 1, 0, none⟩)) := (blk_cell BE.out 0).trans rfl; have hx7 : wc.cell? ⟨w.heap.size + 1, 7, none⟩ = some (.int .i64 0) := (blk_cell PE.out 7).trans rfl; have hf7 := blk_frozen PE.out 7; have hg0 := pw_cell_below HB.out qg0; have hrow1 := pw_cell_below HB.out hrow.out; have hp71 := pw_cell_below HB.out hp7.out; have F1 := Lib.hid (blk_drew (blk_far (p := ⟨w.heap.size + 1, 7, none⟩) B5.out (by simp) (.int .i64 (x.depth + 1)))); have F2 := Lib.hid (blk_drew (blk_put PE.out 7 (.int .i64 (x.depth + 1)) rfl)); have F3 := Lib.hid (blk_drew (blk_far (p := ⟨w.heap.size + 1, 7, none⟩) BE.out (by simp) (.int .i64 (x.depth + 1)))); have F4 := Lib.hid (below_drew1 (HB.out.setCell (p := ⟨w.heap.size + 1, 7, none⟩) (Nat.le_succ _) (.int .i64 (x.depth + 1))))
    go_upto_region 3 with (fail)
    go_region; generalize (wc.setCell ⟨w.heap.size + 1, 7, none⟩ (.int .i64 (x.depth + 1))).drew = W at *; clear hb0 hx7 hf7 hg0 hrow1 hp71 B5 PE BE HB; have hb0 : W.cell? ⟨w.heap.size + 1 + 1, 0, none⟩ = some (.pointer (some ⟨w.heap.size + 1, 0, none⟩)) := (blk_cell F3.out 0).trans rfl; have hx8 : W.cell? ⟨w.heap.size + 1, 8, none⟩ = some (.slice none 0 0) := (blk_cell F2.out 8).trans rfl; have hf8 := blk_frozen F2.out 8; have hg0 := pw_cell_below F4.out qg0; have hrow1 := pw_cell_below F4.out hrow.out; have hp81 := pw_cell_below F4.out hp8.out; have CL := Lib.hid (fun (W' : World) (hb : Below W.heap.size W W') => cloneInt A8' c8' x.clo W' (Kd.C_below g8.out (F4.out.trans (hb.mono F4.out.size))) hxl.out); go_wp2_with fail
    go_region_with (go_at_call 72; refine (CL.out _ (by repeat (first | exact Below.refl _ _ | apply below_drew1 | apply pw_below_drewN))).mono ?_; rintro e w10 ⟨v8, rfl, R8, hb10⟩; obtain ⟨A9, c9, rfl⟩ := Kd.R_slice R8; have hb11 : Hid (Below W.heap.size W w10) := Lib.hid ⟨hb10.os, hb10.tape, hb10.output, hb10.size, hb10.block⟩; have hb02 := pw_cell_below hb11.out hb0; have hx82 := pw_cell_below hb11.out hx8; have hf82 := blk_frozen (blk_below F2.out hb11.out) 8; replace R8 := Lib.hid R8; replace hb10 := Lib.hid hb10)
    all_goals have G1 := Lib.hid (blk_far (p := ⟨w.heap.size + 1, 8, none⟩) (blk_below F1.out hb11.out) (by simp) (.slice A9 x.clo.length c9))
    all_goals have G2 := Lib.hid (blk_put (blk_below F2.out hb11.out) 8 (.slice A9 x.clo.length c9) rfl)
    all_goals have G3 := Lib.hid (blk_far (p := ⟨w.heap.size + 1, 8, none⟩) (blk_below F3.out hb11.out) (by simp) (.slice A9 x.clo.length c9))
    all_goals have G4 := Lib.hid ((F4.out.trans (hb11.out.mono F4.out.size)).setCell (p := ⟨w.heap.size + 1, 8, none⟩) (Nat.le_succ _) (.slice A9 x.clo.length c9))
    all_goals have G5 := Lib.hid (Kd.R_set (Kd.R_lower R8.out (show w.heap.size ≤ _ from F4.out.size)) (blk_below F2.out hb11.out) (by decide) 8 (.slice A9 x.clo.length c9))
    all_goals clear hb02 hx82 hf82 R8 hb10
    all_goals go_wp2
    all_goals go_meet
    all_goals (case rel => exact Lib.hid ⟨G1.out, ⟨_, by rw [e1.out]; exact G2.out, by rw [e2.out]; exact G5.out⟩, G3.out, G4.out⟩)
   ·have hd : decide (0 ≤ above) = false := decide_eq_false h0
    have e1 : depF es above = 0 := if_neg (by omega); have e2 : cloF es above = [] := if_neg (by omega); replace e1 := Lib.hid e1; replace e2 := Lib.hid e2; go_wp2; go_meet
    case rel => exact Lib.hid ⟨B5.out, ⟨.slice none 0 0, by rw [e1.out]; exact PE.out, by rw [e2.out]; exact Kd.R_nil _ _ _ _ _⟩, BE.out, HB.out⟩
  case rest =>
   go_upto_block 0 with (fail)
   go_cut [] (fun wc => Hid (Lay w wc (.string f0) (.string f1) (.slice A2 l2.length c2) (.int .i64 f3) (.int .i64 f4) (.slice A5 l5.length c5) above (depF es above) (closF es (cloF es above) ifs)))
   case first =>
    go_wp2_with fail
    go_loopw [53] (fun i wr => ∃ k : Nat, k ≤ ifs.length ∧ i = .int .i64 k ∧ Hid (Lay w wr (.string f0) (.string f1) (.slice A2 l2.length c2) (.int .i64 f3) (.int .i64 f4) (.slice A5 l5.length c5) above (depF es above) (closF es (cloF es above) (ifs.take k)))) (fun i _ => ifs.length - (intOf i).toNat)
    case atStart => exact ⟨0, Nat.zero_le _, rfl, hcut⟩
    case round =>
     clear hcut; obtain ⟨k, hk, rfl, LY⟩ := hrel
     by_cases hlt : k < ifs.length
     ·obtain ⟨ad0, cc, rfl, hcl, hKK, hic⟩ := Kd.C_get HI.out 0 (k : Int) (by omega) (by omega)
      obtain rfl : cc = [.int .i64 (ifs.getD k 0)] := hKK; have hic := hic 0 _ rfl; rw [show (Kd.int .i64).sz = 1 from rfl, Nat.mul_one, Nat.add_zero, Int.toNat_natCast] at hic
      have hx : ifs[k]? = some (ifs.getD k 0) := by rw [List.getD_eq_getElem?_getD, List.getElem?_eq_getElem hlt]; rfl
      obtain ⟨hi0, hi1⟩ := HRI.out _ (List.mem_of_getElem? hx); have HT := Lib.hid (fun (ci : Nat) (L : List Int) (h : L = closF es (cloF es above) (ifs.take k)) => h); have hTk := Lib.hid (closF_take (es := es) (acc := cloF es above) hx)
      have hRk : Hid (Rng es.length (closF es (cloF es above) (ifs.take k))) := Lib.hid (Rng.clos (fun x hx => (HC.out x hx).1) (by
       unfold cloF
       split
       ·exact (HC.out _ (List.mem_of_getElem? (get_ent (by assumption) (by omega)))).1
       ·exact Rng.nil _) (fun i hi => HRI.out i (List.mem_of_mem_take hi)) (Nat.le_refl _))
      generalize ifs.getD k 0 = i at *; obtain ⟨hnl, ad, p, A2', c2', A5', c5', A8', c8', rfl, hrow, hent, g2, g5, g8⟩ := WIn_all_at H.out hi0 hi1; have hm : ent es i ∈ es := List.mem_of_getElem? (get_ent hi0 hi1); have hRx := Lib.hid (HC.out _ hm).1
      have hxb : (ent es i).clo.length ≤ 1000 := by have := hRx.out.len; omega
      generalize ent es i = x at *; have hp8 : w.cell? ⟨p, 8, none⟩ = some (.slice A8' x.clo.length c8') := (blk_cell hent 8).trans rfl; clear g2 g5 hm hent hx HT; replace hrow := Lib.hid hrow; replace hp8 := Lib.hid hp8; replace g8 := Lib.hid g8; replace hic := Lib.hid hic; have hic1 := pw_cell_below LY.out.hb hic.out; have hg0 := pw_cell_below LY.out.hb qg0; have hrow1 := pw_cell_below LY.out.hb hrow.out; have hp81 := pw_cell_below LY.out.hb hp8.out
      have hlt2 : i < (ps.length : Int) := by omega
      have hlk : decide (k < ifs.length) = true := decide_eq_true hlt; go_wp2_with fail
      go_loopw [68] (fun jv wr => ∃ j : Nat, j ≤ x.clo.length ∧ jv = .int .i64 j ∧ Hid (Lay w wr (.string f0) (.string f1) (.slice A2 l2.length c2) (.int .i64 f3) (.int .i64 f4) (.slice A5 l5.length c5) above (depF es above) (foldI (x.clo.take j) (closF es (cloF es above) (ifs.take k))))) (fun jv _ => x.clo.length - (intOf jv).toNat)
      case atStart => exact ⟨0, Nat.zero_le _, rfl, LY⟩
      case round =>
       clear LY hic1 hg0 hrow1 hp81; obtain ⟨j, hj, rfl, LZ⟩ := hrel
       by_cases hjl : j < x.clo.length
       ·obtain ⟨ad2, cc2, rfl, hcl2, hKK2, hjc⟩ := Kd.C_get g8.out 0 (j : Int) (by omega) (by omega)
        obtain rfl : cc2 = [.int .i64 (x.clo.getD j 0)] := hKK2; have hjc := hjc 0 _ rfl; rw [show (Kd.int .i64).sz = 1 from rfl, Nat.mul_one, Nat.add_zero, Int.toNat_natCast] at hjc
        have hy : x.clo[j]? = some (x.clo.getD j 0) := by rw [List.getD_eq_getElem?_getD, List.getElem?_eq_getElem hjl]; rfl
        have hf := Lib.hid (foldI_take (acc := closF es (cloF es above) (ifs.take k)) hy); have hln : (foldI (x.clo.take j) (closF es (cloF es above) (ifs.take k))).length ≤ 1000 := Nat.le_trans (hRk.out.fold (ks := x.clo.take j) (fun y hy => hRx.out.2 y (List.mem_of_mem_take hy))).len hlen; generalize x.clo.getD j 0 = y at *; have hjc1 := pw_cell_below LZ.out.hb hjc; have hjd : decide (j < x.clo.length) = true := decide_eq_true hjl; have CA := Lib.hid (LZ.out.add hln y); clear LZ hy hln hjc; go_wp2_with (go_at_call 109; refine CA.out.mono ?_; rintro e w2 ⟨rfl, LW⟩; replace LW := Lib.hid LW); refine ⟨⟨j + 1, by omega, by push_cast; rfl, by rw [hf.out]; exact LW⟩, by simp [intOf]; omega⟩
       ·obtain rfl : j = x.clo.length := by omega
        rw [List.take_length] at LZ; have hln : (foldI x.clo (closF es (cloF es above) (ifs.take k))).length ≤ 1000 := Nat.le_trans (hRk.out.fold (ks := x.clo) hRx.out.2).len hlen
        have hjd : decide (x.clo.length < x.clo.length) = false := by simp
        have CA := Lib.hid (LZ.out.add hln i); clear LZ hln; go_wp2_with (go_at_call 109; refine CA.out.mono ?_; rintro e w2 ⟨rfl, LW⟩; replace LW := Lib.hid LW); refine ⟨⟨k + 1, by omega, by push_cast; rfl, by rw [hTk.out]; exact LW⟩, by simp [intOf]; omega⟩
     ·obtain rfl : k = ifs.length := by omega
      rw [List.take_length] at LY
      have hge : decide (ifs.length < ifs.length) = false := by simp
      go_wp2; go_meet
      case rel => exact LY
   case rest =>
    replace LY := hcut; obtain ⟨B5, ⟨v8, PE, R8⟩, BE, HB⟩ := LY.out
    have HRW := (H.out.below HB)
    have hg0 := pw_cell_below HB qg0; replace HRW := Lib.hid HRW; replace B5 := Lib.hid B5; replace PE := Lib.hid PE; replace R8 := Lib.hid R8; replace BE := Lib.hid BE; replace HB := Lib.hid HB; clear LY hcut; have hgl2 : g < wc.heap.size := Nat.lt_of_lt_of_le hgl HB.out.size; have hbl2 : w.heap.size + 1 + 1 < wc.heap.size := blk_lt BE.out; have hb0 : wc.cell? ⟨w.heap.size + 1 + 1, 0, none⟩ = some (.pointer (some ⟨w.heap.size + 1, 0, none⟩)) := (blk_cell BE.out 0).trans rfl; have hgn : Hid (some g ≠ (Value.slice Av ps.length cv).ownBlock) := Lib.hid (Kd.R_ne HRW.out.row HRW.out.blk (by decide)); have hbn : Hid (some w.heap.size ≠ (Value.slice Av ps.length cv).ownBlock) := Lib.hid (Kd.R_ne HRW.out.row B5.out (by decide)); have hgf := blk_frozen HRW.out.blk 0; have hpl : ps.length = es.length := HRW.out.len; have hgb : Hid (base ≤ g) := Lib.hid HRW.out.hg; replace hpl := Lib.hid hpl
    have hpb : ps.length ≤ 1000 := by rw [hpl.out]; exact hlen
    have hcb : base ≤ wc.heap.size := Nat.le_trans hbs HB.out.size
    go_upto_region 17 with (fail)
    go_cut [] (fun wf => ∃ v1, Hid (wf.heap[g]? = some (.cells #[v1, .map (some mb)] 133 (0, 0)) ∧ Kd.R kP 147 wf base (fun _ => True) v1 (ps ++ [w.heap.size + 1]) ∧
      (∀ (j : Nat) (y : Ent) (q : Nat), (es ++ [putE es ⟨f0, f1, l2, f3, f4, l5⟩ above ifs])[j]? = some y → (ps ++ [w.heap.size + 1])[j]? = some q → base ≤ q ∧ ∃ cells, wf.heap[q]? = some (.cells cells 150 (0, 0)) ∧ kE.M wf base (fun _ => True) y cells.toList) ∧
      ∃ D : DataW Unit, wf.ownsMap Tryz.prog 9 (plainElem Tryz.prog 3) mb es.length D ∧ MapSays D (es.map (·.c.f0))) ∧ Hid (wf.heap[w.heap.size]? = some (.cells #[.string f0, .string f1, .slice A2 l2.length c2, .int .i64 f3, .int .i64 f4, .slice A5 l5.length c5] 85 (0, 0))) ∧ Hid (Below base w wf) ∧ Hid (KeptT w wf))
    case first =>
     go_region_law (first | (refine Kd.R_append_step kP (W := wc.drew) (w0 := wc) base (by rfl) (.tmp 89) (.tmp 91) 131 147 (.pointer none) 8 (by rfl) Tryz.underlying131 info_P rfl (by decide) (by omega) _ ps (w.heap.size + 1) [ptrE (w.heap.size + 1)] (fun _ => True) (fun _ => False) (by rfl) (by rfl) rfl (fun _ h => h.elim) (fun _ _ => trivial) (Kd.R_below HRW.out.row (below_drew1 (Below.refl _ _))) (below_drew1 (Below.refl _ _)) hcb (by omega) ?_; intro v1 w2 h1 h2 h3 h4; obtain ⟨A9, c9, rfl⟩ := Kd.R_slice h1; rw [show (ps ++ [w.heap.size + 1]).length = ps.length + 1 by simp] at h1; replace h1 := Lib.hid h1; replace h2 := Lib.hid h2; replace h3 := Lib.hid h3; have kx := (h3.out.frozen_far ⟨g, 0, none⟩ hgl2 hgn.out).trans hgf; have qx := (h3.out.cell_far ⟨g, 0, none⟩ hgl2 hgn.out).trans hg0; clear h4))
     all_goals have NW := Lib.hid (WIn.push (w := wc.drew) (HRW.out.below (below_drew1 (Below.refl _ _))) h3.out h1.out (x := putE es ⟨f0, f1, l2, f3, f4, l5⟩ above ifs) PE.out
      (kE_mkM wc.drew base (fun _ => True) (putE es ⟨f0, f1, l2, f3, f4, l5⟩ above ifs) (Kd.R_below HR2.out (below_drew1 HB.out)) (Kd.R_below HR5.out (below_drew1 HB.out)) (Kd.R_lower (Kd.R_below R8.out (below_drew1 (Below.refl _ _))) hbs)) (by omega))
     all_goals have NB := Lib.hid (blk_far (p := ⟨g, 0, none⟩) (blk_grown (w := wc.drew) B5.out h3.out hbn.out) (by show w.heap.size ≠ g; omega) (.slice A9 (ps.length + 1) c9))
     all_goals have NC := Lib.hid (((HB.out.mono hbs).trans h2.out).setCell (p := ⟨g, 0, none⟩) hgb.out (.slice A9 (ps.length + 1) c9))
     all_goals have NK : Hid (KeptT w (w2.setCell ⟨g, 0, none⟩ (.slice A9 (ps.length + 1) c9))) := Lib.hid (fun k cells t hk ht1 ht2 => by
      have hk1 := blk_below hk HB.out
      exact blk_far (p := ⟨g, 0, none⟩) (blk_grown (w := wc.drew) hk1 h3.out (Kd.R_ne HRW.out.row hk1 (Ne.symm ht2))) (blk_ne hk1 HRW.out.blk ht1) _)
     all_goals clear h1 h2 h3 kx qx
     all_goals go_wp2
     all_goals go_meet
     all_goals (case rel => exact ⟨_, NW, NB, NC, NK⟩)
    case rest =>
     obtain ⟨v1, NW, B5, HB, HK⟩ := hcut; obtain ⟨hblk, hrow, hent, D, hD, hDs⟩ := NW.out
     have hmx : es.length < maxLen := by unfold maxLen; omega
     obtain ⟨w3, hrun, hD3, hgr⟩ := World.ownsMap.update (w := wc.drew) hD.drew (Maps.string_keyed Tryz.underlying9) Tryz.underlying130 hmx (Go.WideMaps.keyOf_string_mk Tryz.underlying9 hs) (plainElem_int Tryz.underlying3 (WalkArith.wf_i64 (n := (ps.length : Int)) (by omega))); have q1 : wc.cell? ⟨g, 1, none⟩ = some (.map (some mb)) := (blk_cell hblk 1).trans rfl; have q5 : wc.cell? ⟨w.heap.size, 0, none⟩ = some (.string f0) := (blk_cell B5.out 0).trans rfl; obtain ⟨es1, clock, hbk, _⟩ := id hD; rw [hpl.out] at hD3
     have hfin : Hid (WIn w3 base g v1 mb (ps ++ [w.heap.size + 1]) (es ++ [putE es ⟨f0, f1, l2, f3, f4, l5⟩ above ifs])) := Lib.hid (by
      have hb := below_drew1 (Below.refl wc.heap.size wc); refine WIn.mapped (W := wc.drew) hgb.out hblk (Kd.R_below hrow hb) (by simp [hpl.out]) (fun j y q hy hq => ?_) H.out.mbl (es1 := es1) (clock := clock) hbk hgr (by rw [List.length_append]; exact hD3) ?_
      ·obtain ⟨h1, cs, h2, h3⟩ := hent j y q hy hq
       exact ⟨h1, cs, h2, Kd.M_below h3 hb⟩
      ·rw [List.map_append]
       have := MapSays.put hDs f0 HN.out; rw [List.length_map] at this
       exact this)
     have hbw : Hid (Below base w w3) := Lib.hid ((below_drew1 HB.out).grown hgr (Nat.le_trans hbs HB.out.size) (fun k hk => by injection hk with hk; rw [← hk]; exact H.out.mbl))
     have hkt : Hid (KeptT w w3) := Lib.hid (fun k cells t hk ht1 ht2 => by
      have hk1 := HK.out k cells t hk ht1 ht2; refine (hgr.block k (blk_lt (w := wc.drew) hk1) (fun e => ?_)).trans hk1; injection e with e; subst e; rw [hk1] at hbk
      cases hbk)
     clear NW hblk hrow hent hD hDs hD3 hgr hbk HB B5 HK; go_wp2; go_region
     all_goals go_wp2
     all_goals go_ret
     all_goals exact ⟨show Ending.returned (Value.int .i64 ((ps.length : Nat) : Int)) = _ by rw [hpl.out], _, _, hfin.out, hbw.out, hkt.out⟩
end Go.Proofs.YtaipkdglhfhhiaaGreatDoor.Hi

namespace Go.Proofs.YtaipkdglhfhhiaaGreatDoor.Hi
open Go Go.RowKit Go.Proofs.YtaipkdglhfhhiaaGreatDoorW.PrintWords Go.Proofs.YtaipkdglhfhhiaaGreatDoorW.PrintLast Go.Proofs.YtaipkdglhfhhiaaGreatDoorW.PrintMore Go.Proofs.YtaipkdglhfhhiaaGreatDoor.Pt
set_option linter.unusedVariables false
set_option linter.unusedSimpArgs false
set_option maxHeartbeats 2000000
set_option maxRecDepth 100000
theorem at_in {w : World} {g : Nat} {es : List Ent} (hq : WOK w g es) {i : Int} (h0 : 0 ≤ i) (h1 : i < es.length) : ∃ p A2 c2 A5 c5 A8 c8,
   w.heap[p]? = some (.cells #[.string (ent es i).c.f0, .string (ent es i).c.f1, .slice A2 (ent es i).c.f2.length c2, .int .i64 (ent es i).c.f3, .int .i64 (ent es i).c.f4, .slice A5 (ent es i).c.f5.length c5, .int .i64 (ent es i).above, .int .i64 (ent es i).depth, .slice A8 (ent es i).clo.length c8] 150 (0, 0)) ∧
   (ent es i).c.f2.length ≤ c2 ∧ Kd.C Kd.string w A2 (ent es i).c.f2.length (ent es i).c.f2 ∧ (ent es i).c.f5.length ≤ c5 ∧ Kd.C k105 w A5 (ent es i).c.f5.length (ent es i).c.f5 ∧ (ent es i).clo.length ≤ c8 ∧ (∃ base, Kd.R (Kd.int .i64) 3 w base (fun _ => True) (.slice A8 (ent es i).clo.length c8) (ent es i).clo) ∧
   ∀ W, Below w.heap.size w W → Calls Tryz.prog 98 #[.pointer (some ⟨g, 0, none⟩), .int .i64 i] W fun e w' => e = .returned (.pointer (some ⟨p, 0, none⟩)) ∧ Below W.heap.size W w' := by
 obtain ⟨⟨base, v, mb, ps, h⟩, hf, ht, hlen⟩ := hq; have hl := h.len; have hx := get_ent h0 h1
 have hp : ps[i.toNat]? = some (ps.getD i.toNat 0) := by
  rw [List.getD_eq_getElem?_getD, List.getElem?_eq_getElem (by omega)]; rfl
 obtain ⟨_, cells, hb, hM⟩ := h.ent _ _ _ hx hp; obtain ⟨_, _, e1, hc, ⟨_, _, e2, e2', ⟨_, _, e3, e3', ⟨v8, e4, R8⟩⟩⟩⟩ := hM; have hC := k85.K_of_M hc; obtain ⟨A2, c2, A5, c5, e5, l2, g2, l5, g5⟩ := k85_open hC; obtain ⟨A8, c8, e6, l8, _⟩ := Kd.R_reads R8; subst e6
 have hcs : cells = #[.string (ent es i).c.f0, .string (ent es i).c.f1, .slice A2 (ent es i).c.f2.length c2, .int .i64 (ent es i).c.f3, .int .i64 (ent es i).c.f4, .slice A5 (ent es i).c.f5.length c5, .int .i64 (ent es i).above, .int .i64 (ent es i).depth, .slice A8 (ent es i).clo.length c8] := by
  apply Array.toList_inj.1
  rw [e1, e5, e2, e3, e4, e2', e3']
  rfl
 rw [hcs] at hb; refine ⟨ps.getD i.toNat 0, A2, c2, A5, c5, A8, c8, hb, l2, g2, l5, g5, l8, ⟨base, R8⟩, fun W hW => ?_⟩; have := at_any W base g v mb ps es (h.below hW) i
 rwa [show atP ps i = .pointer (some ⟨ps.getD i.toNat 0, 0, none⟩) from if_pos ⟨h0, by omega⟩] at this
theorem at_out {w : World} {g : Nat} {es : List Ent} (hq : WOK w g es) {i : Int} (h : ¬ (0 ≤ i ∧ i < es.length)) :
  ∀ W, Below w.heap.size w W → Calls Tryz.prog 98 #[.pointer (some ⟨g, 0, none⟩), .int .i64 i] W fun e w' => e = .returned (.pointer none) ∧ Below W.heap.size W w' := by
 obtain ⟨⟨base, v, mb, ps, hi⟩, hf, ht, hlen⟩ := hq; have hl := hi.len; intro W hW; have := at_any W base g v mb ps es (hi.below hW) i
 rwa [show atP ps i = .pointer none from if_neg (by omega)] at this
theorem iface_any (w : World) (x0 x1 x2 x4 x5 : Value) (f3 : Int) : Calls Tryz.prog 100 #[.agg #[x0, x1, x2, .int .i64 f3, x4, x5]] w fun e w' => e = .returned (.bool (Go.bits .and .i64 f3 512 != 0)) ∧ Below w.heap.size w w' := by
 go_enter Tryz.func100, Tryz.ntmps100; go_wp2; go_ret
 exact ⟨rfl, (Below.refl _ _).alloc (Nat.le_refl _) _⟩
theorem isIface_any (w : World) (g : Nat) (es : List Ent) (hq : WOK w g es) (i : Int) :
  Calls Tryz.prog 61 #[.pointer (some ⟨g, 0, none⟩), .int .i64 i] w fun e w' => e = .returned (.bool (inB es i && isI (ent es i).c)) ∧ Below w.heap.size w w' := by
 by_cases hi : 0 ≤ i ∧ i < es.length
 ·obtain ⟨p, A2, c2, A5, c5, A8, c8, hb, l2, g2, l5, g5, l8, R8, HA⟩ := at_in hq hi.1 hi.2
  have he : Hid (inB es i = true) := Lib.hid (decide_eq_true hi); have CA := Lib.hid (HA w (Below.refl _ _)); generalize ent es i = x at *; replace hb := Lib.hid hb; clear HA hq l2 g2 l5 g5 l8 R8; go_enter Tryz.func61, Tryz.ntmps61; go_wp2_with fail; refine CA.out.mono ?_; rintro e w1 ⟨rfl, hb1⟩; have D := blk_below hb.out hb1; have p0 : w1.cell? ⟨p, 0, none⟩ = some (.string x.c.f0) := (blk_cell D 0).trans rfl; have p1 : w1.cell? ⟨p, 1, none⟩ = some (.string x.c.f1) := (blk_cell D 1).trans rfl; have p2 : w1.cell? ⟨p, 2, none⟩ = some (.slice A2 x.c.f2.length c2) := (blk_cell D 2).trans rfl; have p3 : w1.cell? ⟨p, 3, none⟩ = some (.int .i64 x.c.f3) := (blk_cell D 3).trans rfl; have p4 : w1.cell? ⟨p, 4, none⟩ = some (.int .i64 x.c.f4) := (blk_cell D 4).trans rfl; have p5 : w1.cell? ⟨p, 5, none⟩ = some (.slice A5 x.c.f5.length c5) := (blk_cell D 5).trans rfl; have IF := Lib.hid (iface_any w1 (.string x.c.f0) (.string x.c.f1) (.slice A2 x.c.f2.length c2) (.int .i64 x.c.f4) (.slice A5 x.c.f5.length c5) x.c.f3); replace hb1 := Lib.hid hb1; clear D CA; go_wp2_with (go_at_call 100; refine IF.out.mono ?_; rintro e w2 ⟨rfl, hb2⟩; replace hb2 := Lib.hid hb2); go_ret
  exact ⟨by rw [he.out]; rfl, hb1.out.trans (hb2.out.mono hb1.out.size)⟩
 ·have he : Hid (inB es i = false) := Lib.hid (decide_eq_false hi)
  have CA := Lib.hid (at_out hq hi w (Below.refl _ _)); clear hq; go_enter Tryz.func61, Tryz.ntmps61; go_wp2_with fail; refine CA.out.mono ?_; rintro e w1 ⟨rfl, hb1⟩; replace hb1 := Lib.hid hb1; clear CA; go_wp2; go_ret
  exact ⟨by rw [he.out]; rfl, hb1.out⟩
theorem look_name {D : DataW Unit} {es : List Ent} (h : MapSays D (es.map (·.c.f0))) (s : ByteArray) (c : Int) (hc : D.atKey (.string s.data.toList) (.lit (.int .i64 0)) = .lit (.int .i64 c)) :
  (Maps.has D (.string s.data.toList) = true → (nameF es s).1 = c ∧ (nameF es s).2 = 0 ∧ 0 ≤ c ∧ c < es.length ∧ (ent es c).c.f0 = s) ∧ (Maps.has D (.string s.data.toList) = false → (nameF es s) = (0, 6)) := by
 obtain ⟨hm, h⟩ := h; obtain ⟨h1, h2⟩ := h s; unfold nameF
 cases hf : (es.map (·.c.f0)).findIdx? (fun t => decide (t = s)) with
 | some i =>
  obtain ⟨hi, hs, _⟩ := List.findIdx?_eq_some_iff_getElem.1 hf; have hs := of_decide_eq_true hs
  have hget : (es.map (·.c.f0))[i]? = some s := by rw [List.getElem?_eq_getElem hi, hs]
  have := h2 i hget; rw [this] at hc; injection hc with hc; injection hc with _ hc; rw [List.length_map] at hi; refine ⟨fun _ => ⟨hc, rfl, by omega, by omega, ?_⟩, fun hn => ?_⟩
  ·rw [← hc]
   rw [List.getElem?_map, List.getElem?_eq_getElem hi] at hget; have := ent_get (List.getElem?_eq_getElem hi); rw [this]
   simpa using hget
  ·have := h1.2 (List.mem_of_getElem? hget)
   rw [hn] at this
   cases this
 | none =>
  refine ⟨fun hy => ?_, fun _ => rfl⟩; have := h1.1 hy; rw [List.findIdx?_eq_none_iff] at hf; have := hf s this; simp at this
theorem zeroInt (w : World) : (zeroValue 3).run Tryz.prog w = .ok (.int .i64 0) w := by kernel_rfl
end Go.Proofs.YtaipkdglhfhhiaaGreatDoor.Hi

namespace Go.Proofs.YtaipkdglhfhhiaaGreatDoor.Hi
open Go Go.RowKit Go.Proofs.YtaipkdglhfhhiaaGreatDoor.Nm Go.Proofs.YtaipkdglhfhhiaaGreatDoorW.PrintWords Go.Proofs.YtaipkdglhfhhiaaGreatDoorW.PrintLast Go.Proofs.YtaipkdglhfhhiaaGreatDoorW.PrintMore Go.Proofs.YtaipkdglhfhhiaaGreatDoor.Pt
set_option linter.unusedVariables false
set_option linter.unusedSimpArgs false
set_option maxHeartbeats 2000000
set_option maxRecDepth 100000
def tog (a b : S85) : Bool := a.f4 == b.f4 && ((pkgB a.f0).toList == (pkgB b.f0).toList)
theorem together_any (w : World) (x y : S85) (v1 v2 v5 u1 u2 u5 : Value) (x3 y3 : Value) (hx : x.f0.size < 4611686018427387904) (hy : y.f0.size < 4611686018427387904) :
  Calls Tryz.prog 113 #[.agg #[.string x.f0, v1, v2, x3, .int .i64 x.f4, v5], .agg #[.string y.f0, u1, u2, y3, .int .i64 y.f4, u5]] w fun e w' => e = .returned (.bool (tog x y)) ∧ Below w.heap.size w w' := by
 have PX := Lib.hid (package_any x.f0 hx); have PY := Lib.hid (package_any y.f0 hy)
 by_cases h4 : x.f4 = y.f4
 ·have e4 : (x.f4 == y.f4) = true := beq_iff_eq.2 h4
  have hT : Hid (tog x y = ((pkgB x.f0).toList == (pkgB y.f0).toList)) := Lib.hid (by unfold tog; rw [e4]; rfl); clear h4; go_enter Tryz.func113, Tryz.ntmps113; go_wp2
  go_quiet (first | (go_at_call 94; exact Calls.quiet_of_same (PX.out _)) | (go_at_call 94; exact Calls.quiet_of_same (PY.out _)))
  go_wp2; go_ret
  exact ⟨by rw [hT.out]; rfl, by repeat (first | exact Below.refl _ _ | apply pw_below_drewN | apply below_drew1 | refine below_alloc ?_ _)⟩
 ·have e4 : (x.f4 == y.f4) = false := beq_eq_false_iff_ne.2 h4
  have hT : Hid (tog x y = false) := Lib.hid (by unfold tog; rw [e4]; rfl); go_enter Tryz.func113, Tryz.ntmps113; go_wp2; go_region
  all_goals go_wp2
  all_goals go_ret
  all_goals exact ⟨by rw [hT.out]; rfl, by repeat (first | exact Below.refl _ _ | apply below_drew1 | refine below_alloc ?_ _)⟩
end Go.Proofs.YtaipkdglhfhhiaaGreatDoor.Hi
