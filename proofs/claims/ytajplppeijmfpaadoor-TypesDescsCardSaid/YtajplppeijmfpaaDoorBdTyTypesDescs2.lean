/- Lemmas and contracts for the statement of TyTypesDescs: joined by program out of this session's texts. -/
import Derived.Test.YtajplppeijmfpaaDoorBdTyTypesDescs1
import Derived.Test.YtajplppeijmfpaaDoorProg
import Derived.Below
import Derived.Deep.Draws
import Derived.Deep.AppendLies
import Derived.Maps.AppendAt
import Derived.OwnWalk
import Derived.Laws.BytesArg
import Derived.Laws.MakeOwn
import Derived.Laws.OwnMore
import Derived.Deep.OwnRows
import Derived.Tactics
import Derived.Lib.ConvBytes
import Derived.Laws.Slices
import Derived.WalkKit
import Derived.KernelRfl
import Derived.RowKit3
import Derived.Deep.LoopGhost
import Derived.Deep.QuietTactic
import Derived.BigQuiet
import Derived.WideLaws
import Derived.Deep.DeepCutAuto
import Derived.Deep.CutBlock
import Derived.Deep.RegionHeld3
import Derived.Laws.Rows
import Derived.Lib.AppendStr
import Derived.ArgAppend
import Derived.Laws.IdiomCopy
import Derived.OrdersHeld
import Derived.Laws.BitsLemmas
import Derived.RowKit
import Derived.Handy
import Derived.Lib.Hide
import Derived.Lib.Split
import Derived.Lib.SplitLaws
import Derived.Lib.Join
import Derived.Lib.IndexLaws
import Derived.Lib.IndexBytes
import Derived.Shelf.Strings.Builder1
import Derived.Shelf.Strings.Builder2
import Derived.Shelf.Strings.OnBuilder
import Derived.Shelf.Strings.BuilderF
import Derived.Shelf.Strings.BuilderK
import Derived.Shelf.Utf8.RuneCount
import Derived.Shelf.Strings.Builder2Cap
import Derived.Shelf.Strings.Search1
import Derived.Shelf.Strings.Search2
import Derived.Shelf.Strings.Search3
import Derived.Shelf.Strings.Cut
import Derived.Shelf.Strings.Count
import Derived.Shelf.LaysM
import Derived.Shelf.Strings.Shaped
import Derived.Shelf.Strings.LastIndex
import Derived.Shelf.Strings.Prefix
import Derived.Shelf.Strings.Split
import Derived.Shelf.Strings.SplitShaped
import Derived.Shelf.Unicode.Decode
import Derived.Shelf.Strings.RuneCount
import Derived.Shelf.Strings.Explode
import Derived.Shelf.Bits.Mul64
import Derived.Shelf.Strings.Repeat
import Derived.Shelf.Unicode.DecodeSlow
import Derived.Shelf.Unicode.DecodeAny
import Derived.Shelf.Strings.BuilderCap
import Derived.Ground.PaProg
import Derived.Shelf.Path.Small
import Derived.WalkLawsBesides
import Derived.RangeFuncBox
namespace Go.Proofs.YtajplppeijmfpaaDoor.Pt
open Go.RowKit Go.Proofs.YtajplppeijmfpaaDoorW.PrintWords Go.Proofs.YtajplppeijmfpaaDoorW.PrintLast Go.Proofs.YtajplppeijmfpaaDoorW.PrintMore
theorem bX {n : Nat} {w W0 W : World} (h : Aside0 (Below n w W0)) (k : Below n w W0 → Below n w W := by intro h_; repeat (first | (with_reducible first | exact h_ | apply below_alloc | apply pw_below_drewN | apply below_drew1) | exact h_)) : Below n w W := k h.out
theorem bX1 {n : Nat} {w W0 W : World} {g0 : Nat} (h : Aside0 (Below n w W0)) (q0 : Aside0 (n ≤ g0)) (k : Below n w W0 → n ≤ g0 → Below n w W := by intro h_ q0_; repeat (first | (with_reducible first | exact h_ | apply below_alloc | apply pw_below_drewN | apply below_drew1 | refine below_set ?_ q0_) | exact h_)) : Below n w W := k h.out q0.out
theorem bX2 {n : Nat} {w W0 W : World} {g0 : Nat} {g1 : Nat} (h : Aside0 (Below n w W0)) (q0 : Aside0 (n ≤ g0)) (q1 : Aside0 (n ≤ g1)) (k : Below n w W0 → n ≤ g0 → n ≤ g1 → Below n w W := by intro h_ q0_ q1_; repeat (first | (with_reducible first | exact h_ | apply below_alloc | apply pw_below_drewN | apply below_drew1 | refine below_set ?_ q0_ | refine below_set ?_ q1_) | exact h_)) : Below n w W := k h.out q0.out q1.out
theorem kX {g : Nat} {o : Obj} {w W : World} (h : Aside0 (w.heap[g]? = some o)) (k : w.heap[g]? = some o → W.heap[g]? = some o := by intro h_; (with_reducible repeat (first | refine blk_drewN ?_ _ | refine blk_drew ?_ | refine blk_alloc ?_ _)); exact h_) : W.heap[g]? = some o := k h.out
theorem pX {P : Program} {ops : Array Oper} {Q : Exit → Act → World → Prop} {md : Region.Mode} {S : World → Prop} {ds : List Nat} {T : Bool × List (List Nat × List Nat)} (HT : Aside0 (rtab md ops = T)) (i : Nat) (N : Option Tmp) {oi : Oper} {v : Value} {fuel : Nat} {l : Array Bool} {a a' : Act} {w : World} (h : wpAnyLast P md ops Q S ds fuel (l.setIfInBounds i true) a' w) (hi : ops[i]? = some oi := by exact rfl) (hN : oi.dst = N := by exact rfl) (hT : anyT T l.toList (l.setIfInBounds i true).toList i = true := by kernel_rfl) (hQ : ∀ (c : List PanicEntry) (a : Act) (w : World), Q (.panic c) (a.put oi.dst v) w → Q (.panic c) a w := by exact fun _ _ _ h => h) (hy : Yields P ops oi v a := by (refine Or.inl ⟨by rfl, ?_⟩; intro w'; go_simp; with_reducible rfl)) (ha : a.put N v = a' := by (simp only [Act.put, List.setIfInBounds_toArray, List.set_cons_zero, List.set_cons_succ, i64_w, i32_w]; rfl)) : wpAnyLast P md ops Q S ds (fuel + 1) l a w := pure_ _ hi hN (any_of HT.out hT) hQ hy ha h
theorem tX {P : Program} {ops : Array Oper} {Q : Exit → Act → World → Prop} {md : Region.Mode} {S : World → Prop} {ds : List Nat} {T : Bool × List (List Nat × List Nat)} {B : List Nat} (HT : Aside0 (rtab md ops = T)) (HW : Aside0 (waitsOk T.2 B = true)) {w : World} (hS : S w) (i : Nat) (N : Option Tmp) {oi : Oper} {v : Value} {fuel : Nat} {l : Array Bool} {a a' : Act} (h : wpAnyLast P md ops Q S ds fuel (l.setIfInBounds i true) a' w) (hi : ops[i]? = some oi := by exact rfl) (hN : oi.dst = N := by exact rfl) (hT : takeW T B ds l.toList (l.setIfInBounds i true).toList i = true := by kernel_rfl) (hQ : ∀ (c : List PanicEntry) (a : Act) (w : World), Q (.panic c) (a.put oi.dst v) w → Q (.panic c) a w := by exact fun _ _ _ h => h) (hy : YieldsIf P ops S oi v a := by (refine Or.inl ⟨by rfl, ?_⟩; intro w' hs_; (repeat (have s_ := And.left hs_; replace hs_ := And.right hs_)); go_simp; with_reducible rfl)) (ha : a.put N v = a' := by (simp only [Act.put, List.setIfInBounds_toArray, List.set_cons_zero, List.set_cons_succ, i64_w, i32_w]; rfl)) : wpAnyLast P md ops Q S ds (fuel + 1) l a w := take_ _ hi hN (take_ofW HT.out HW.out hT) hQ hy hS ha h
theorem oX {P : Program} {ops : Array Oper} {Q : Exit → Act → World → Prop} {md : Region.Mode} {S : World → Prop} {ds : List Nat} {T : Bool × List (List Nat × List Nat)} (HT : Aside0 (rtab md ops = T)) (i : Nat) (N : Option Tmp) {oi : Oper} {fuel : Nat} {l : Array Bool} {a : Act} {w : World} (h : ∀ (K : Act → World → Prop), Shut (∀ (a' : Act) (w' : World), S w' → (S w' → wpAnyLast P md ops Q S ds fuel (l.setIfInBounds i true) a' w') → K a' w') → if Region.wanted oi (yielded ops a.tmps) = true then Oper.wp P oi a w K Q else K (a.put N undef) w) (hi : ops[i]? = some oi := by exact rfl) (hN : oi.dst = N := by exact rfl) (hT : (readyT T.2 l.toList == [i] && l.toList.set i true == (l.setIfInBounds i true).toList) = true := by kernel_rfl) (hd : i ∉ ds := by decide) : wpAnyLast P md ops Q S ds (fuel + 1) l a w := one_ _ hi hN (one_of HT.out hT) hd h
theorem nX {P : Program} {ops : Array Oper} {Q : Exit → Act → World → Prop} {md : Region.Mode} {S : World → Prop} {ds : List Nat} (N : Option Tmp) {v : Value} {fuel : Nat} {l : Array Bool} {a a' : Act} {w : World} (h : wpAnyLast P md ops Q S ds fuel l a' w) (ha : a.put N v = a' := by (simp only [Act.put, List.setIfInBounds_toArray, List.set_cons_zero, List.set_cons_succ, i64_w, i32_w]; rfl)) : wpAnyLast P md ops Q S ds fuel l (a.put N v) w := norm_ ha h
theorem c2X {w : World} {g t : Nat} {x0 x1 : Value} (h : Aside0 (w.heap[g]? = some (.cells #[x0, x1] t (0, 0)))) : w.cell? ⟨g, 0, none⟩ = some x0 ∧ w.cell? ⟨g, 1, none⟩ = some x1 ∧ w.frozen? ⟨g, 0, none⟩ = false ∧ w.frozen? ⟨g, 1, none⟩ = false := ⟨(blk_cell h.out 0).trans rfl, (blk_cell h.out 1).trans rfl, blk_frozen h.out 0, blk_frozen h.out 1⟩
theorem c4X {w : World} {g t : Nat} {x0 x1 x2 x3 : Value} (h : Aside0 (w.heap[g]? = some (.cells #[x0, x1, x2, x3] t (0, 0)))) : w.cell? ⟨g, 0, none⟩ = some x0 ∧ w.cell? ⟨g, 1, none⟩ = some x1 ∧ w.cell? ⟨g, 2, none⟩ = some x2 ∧ w.cell? ⟨g, 3, none⟩ = some x3 ∧ w.frozen? ⟨g, 0, none⟩ = false ∧ w.frozen? ⟨g, 1, none⟩ = false ∧ w.frozen? ⟨g, 2, none⟩ = false ∧ w.frozen? ⟨g, 3, none⟩ = false := ⟨(blk_cell h.out 0).trans rfl, (blk_cell h.out 1).trans rfl, (blk_cell h.out 2).trans rfl, (blk_cell h.out 3).trans rfl, blk_frozen h.out 0, blk_frozen h.out 1, blk_frozen h.out 2, blk_frozen h.out 3⟩
theorem rX {α : Type} {d : Kd α} {e : Nat} {w W : World} {base : Nat} {ok : Nat → Prop} {v : Value} {xs : List α} (h : Aside0 (d.R e w base ok v xs)) (k : d.R e w base ok v xs → d.R e W base ok v xs := by intro h_; (with_reducible repeat (first | apply Kd.R_alloc | apply Kd.R_drewN | apply Kd.R_drew)); exact h_) : d.R e W base ok v xs := k h.out
theorem gX {P : Program} {ops : Array Oper} {Q : Exit → Act → World → Prop} {rest : List Oper} {oi : Oper} {a : Act} {w : World} (N : Option Tmp) {f : FuncId} {fn : Func} {os : Array Operand} {ts : Array TypeId} (hf : P.funcs[f]? = some fn) (args : Array Value) (h : Calls P f args w fun e w' => ∃ v, e = .returned v ∧ wpList P ops Q rest (a.put N v) w') (hd : oi.dst = N := by exact rfl) (hg : oi.guard = none := by exact rfl) (hname : (fn.name == "runtime.NumGoroutine") = false := by kernel_rfl) (hb : fn.body.isSome = true := by exact rfl) (hop : oi.op = .call { callee := .value (.func f), args := os, argTypes := ts } := by exact rfl) (hargs : os.map a.eval = args := by ((try simp only [List.map_toArray, List.map_cons, List.map_nil]); first | done | rfl | (simp only [List.length_drop, List.length_take]; rfl))) : wpList P ops Q (oi :: rest) a w := goesL_ N hd hg hf hname hb args hop hargs h
theorem hX {P : Program} {ops : Array Oper} {Q : Exit → Act → World → Prop} {oi : Oper} {N : Option Tmp} {a : Act} {w : World} {K : Act → World → Prop} {f : FuncId} {fn : Func} {os : Array Operand} {ts : Array TypeId} (hf : P.funcs[f]? = some fn) (args : Array Value) (h : Calls P f args w fun e w' => ∃ v, e = .returned v ∧ K (a.put N v) w') (hname : (fn.name == "runtime.NumGoroutine") = false := by kernel_rfl) (hb : fn.body.isSome = true := by exact rfl) (hw : Region.wanted oi (yielded ops a.tmps) = true := by rfl) (hN : oi.dst = N := by exact rfl) (hop : oi.op = .call { callee := .value (.func f), args := os, argTypes := ts } := by exact rfl) (hargs : os.map a.eval = args := by ((try simp only [List.map_toArray, List.map_cons, List.map_nil]); first | done | rfl | (simp only [List.length_drop, List.length_take]; rfl))) : if Region.wanted oi (yielded ops a.tmps) = true then Oper.wp P oi a w K Q else K (a.put N undef) w := goes_ hf hname hb args hw hN hop hargs h
theorem eX {P : Program} {ops : Array Oper} {o : Oper} {rest : List Oper} {Q : Exit → Act → World → Prop} {a : Act} {W : World} (N : Tmp) (cs : Array Value) (t : TypeId) (h : ∀ g, g = W.heap.size → ∀ w1, w1.heap[g]? = some (.cells cs t (0, 0)) → Below W.heap.size W w1 → wpList P ops Q rest (a.put o.dst (.pointer (some ⟨g, 0, none⟩))) w1) (hgd : o.guard = none := by exact rfl) (hd : o.dst = some N := by exact rfl) (hrun : (execOp a.eval o).run P W = .ok (.value (.pointer (some ⟨W.heap.size, 0, none⟩))) (W.alloc (.cells cs t (0, 0))) := by first | (go_simp; done) | (go_simp; rfl)) : wpList P ops Q (o :: rest) a W := box_event hgd hd hrun h
theorem vX {α : Sort _} {a b : α} (h : a = b := by first | rfl | (simp; done) | (simp [*]; done)) : a = b := h
theorem qX {p : Prop} [Decidable p] (h : decide p = true := by first | (with_reducible assumption) | assumption) : p := of_decide_eq_true h
attribute [local go_sem] max2_int min2_int max_two min_two max_three min_three max_four min_four   -- for this text's walks alone
set_option linter.unusedVariables false
set_option linter.unusedSimpArgs false
def errW : Option Int → Value
 | none => .nilIface
 | some c => .iface 0 (.int .i64 c)
theorem errW_none : errW none = .nilIface := rfl
theorem errW_some (c : Int) : errW (some c) = .iface 0 (.int .i64 c) := rfl
theorem info5 : (Tryd.prog.info? 5).map (fun i => (i.zero, i.size, i.bytes)) = some (some (.int .u8 0), 1, 1) := by kernel_rfl
structure S41 where
 f0 : Int
 f1 : ByteArray
def z41 : S41 := ⟨(0 : Int), (⟨#[]⟩ : ByteArray)⟩
def k41 : Kd S41 := Kd.iso (Kd.pair (Kd.int .i64) Kd.string) (fun x : S41 => (x.f0, x.f1))
theorem k41_open {w : World} {x : S41} {cs : List Value} (h : k41.K w x cs) : cs = [.int .i64 x.f0, .string x.f1] := by
 obtain ⟨_, _, rfl, rfl, rfl⟩ := h
 exact rfl
theorem k41_mkM (w : World) (base : Nat) (ok : Nat → Prop) (x : S41)  : k41.M w base ok x [.int .i64 x.f0, .string x.f1] := ⟨[.int .i64 x.f0], [.string x.f1], rfl, rfl, rfl⟩
def rd_T41 (xs : List S41) (i : Int) : S41 := xs.getD i.toNat z41
theorem at_T41 {w : World} {A : Option Addr} {n : Nat} {xs : List S41} (h : Kd.C k41 w A n xs) (i : Int) (h0 : 0 ≤ i) (h1 : i < n) : ∃ ad , A = some ad ∧ w.cell? (ad.add (i.toNat * 2)) = some (.int .i64 (rd_T41 xs i).f0) ∧ w.cell? ⟨(ad.add (i.toNat * 2)).block, (ad.add (i.toNat * 2)).off + 1, none⟩ = some (.string (rd_T41 xs i).f1) := by
 obtain ⟨ad, c, e, _, hK, hc0⟩ := Kd.C_get h z41 i h0 h1; have hc : ∀ j u, c[j]? = some u → w.cell? (ad.add (i.toNat * 2 + j)) = some u := hc0; obtain rfl := k41_open hK
 exact ⟨ad, e, hc 0 _ rfl, by rw [← add_field _ _ 1 (by omega)]; exact hc 1 _ rfl⟩
end Go.Proofs.YtajplppeijmfpaaDoor.Pt

namespace Go.Proofs.YtajplppeijmfpaaDoor
open Go Go.RowKit
set_option linter.unusedVariables false
set_option linter.unusedSimpArgs false
theorem ret_bool {a b : Bool} (h : a = b) : Ending.returned (.bool a) = .returned (.bool b) := by rw [h]
theorem append1 {P : Program} {ops : Array Oper} {rest : List Oper} {o : Oper} {a : Act} {Q : Exit → Act → World → Prop} {W : World} (base : Nat) (hgd : o.guard = none) (s x : Operand) (t e : TypeId) (z : Value) (size bytes : Nat)
  (ho : o.op = .call { callee := .builtin .append, args := #[s, x], argTypes := #[t, t] })
  (ht : P.underlying t = some (.slice e)) (hinfo : (P.info? e).map (fun i => (i.zero, i.size, i.bytes)) = some (some z, size, bytes)) (hz : z.cells.size = size) (hsz : 0 < size)
  (v : Value) (n : Nat) (xs news : List Value) (hs : a.eval s = v) (b : Nat) (hb : b = W.heap.size) (hx : a.eval x = .slice (some ⟨b, 0, none⟩) 1 1) (hnl : news.length = size) (h1 : ∀ u ∈ news, u.oneCell' = true)
  (HO : W.ownsRow base e size v n xs) (hbase : base ≤ W.heap.size) (hl : (n + 1) * bytes ≤ 140737488355328) (hm : n + 1 ≤ 9223372036854775807)
  (h : ∀ v1 w1, w1.ownsRow base e size v1 (n + 1) (xs ++ news) → W.grownBy w1 v.ownBlock → wpList P ops Q rest (a.put o.dst v1) w1) :
  wpList P ops Q (o :: rest) a (W.alloc (.cells news.toArray e)) := by
 subst hb; obtain ⟨i0, hi, hzz⟩ := Option.map_eq_some_iff.1 hinfo; simp only [Prod.mk.injEq] at hzz; obtain ⟨hz0, hz1, hz2⟩ := hzz; refine wpList_append_own (W.alloc (.cells news.toArray e)) hgd s x t ho base e i0 z size bytes ht hi hz0 hz1 hz2 hz hsz v n xs hs (HO.alloc _) ⟨W.heap.size, 0, none⟩ 1 1 news hx (by omega) ?_ h1 (by simpa only [maxLen] using hm) hl (by simp; omega) ?_
 ·intro j u hu
  exact World.news_of_block (cs := news.toArray) (t := e) (fr := (0, 0)) (heap_alloc_new W _) j u (by simpa using hu)
 ·intro v1 w1 hown hg _
  exact h v1 w1 hown (World.grownBy.trans (World.grownBy_alloc W _ _) hg)
theorem own_base {w : World} {base : Nat} {e : TypeId} {size n : Nat} {v : Value} {xs : List Value} (h : w.ownsRow base e size v n xs) (k : Nat) (hk : v.ownBlock = some k) : base ≤ k := (h.lt k hk).1
theorem own_cell {w : World} {base g cap : Nat} {e : TypeId} {size n : Nat} {xs : List Value} (h : w.ownsRow base e size (.slice (some ⟨g, 0, none⟩) n cap) n xs) (j : Nat) (u : Value) (hu : xs[j]? = some u) : w.cell? ⟨g, j, none⟩ = some u := by
 have := h.cells (g := g) rfl j u hu; unfold Addr.add at this
 split at this <;> simp_all
theorem own_shape {w : World} {base : Nat} {e : TypeId} {size n : Nat} {v : Value} {xs : List Value} (h : w.ownsRow base e size v n xs) : ∃ A c, v = .slice A n c := by
 rcases h.2 with ⟨rfl, rfl⟩ | ⟨g, cap, cur, rfl, _⟩
 ·exact ⟨none, 0, rfl⟩
 ·exact ⟨_, cap, rfl⟩
theorem bl_cell {w w1 : World} (h : Below w.heap.size w w1) {a : Addr} {v : Value} (hc : w.cell? a = some v) : w1.cell? a = some v := (h.cell (World.block_lt_of_cell? w a hc)).trans hc
theorem cell_new (w : World) (cs : Array Value) (t : TypeId) (j : Nat) : (w.alloc (.cells cs t)).cell? ⟨w.heap.size, j, none⟩ = cs[j]? := by
 simp only [World.cell?, heap_alloc_new]
 rfl
end Go.Proofs.YtajplppeijmfpaaDoor

namespace Go.Proofs.YtajplppeijmfpaaDoor.Nm
open Go Go.RowKit
set_option linter.unusedVariables false
set_option linter.unusedSimpArgs false
def bt (s : ByteArray) (k : Nat) : Int := ((s.data.toList.getD k 0).toNat : Int)
theorem bt_at (s : ByteArray) (k : Nat) (h : k < s.size) : ((s[k]'h).toNat : Int) = bt s k := by
 have h' : k < s.data.toList.length := by rw [Array.length_toList]; exact h
 simp only [bt, List.getD_eq_getElem?_getD, List.getElem?_eq_getElem h', Option.getD_some]
 rfl
theorem bt_range (s : ByteArray) (k : Nat) : 0 ≤ bt s k ∧ bt s k ≤ 255 := by
 unfold bt; have := (s.data.toList.getD k 0).toNat_lt
 omega
def letB (n : Int) (first : Bool) : Bool :=
 decide (97 ≤ n ∧ n ≤ 122) || decide (65 ≤ n ∧ n ≤ 90) || n == 95 || n == 36 || (!first && decide (48 ≤ n ∧ n ≤ 57))
def lets (s : ByteArray) (k : Nat) : Bool := (List.range k).all fun j => letB (bt s j) ((j : Int) == 0)
theorem lets_succ (s : ByteArray) (k : Nat) : lets s (k + 1) = (lets s k && letB (bt s k) ((k : Int) == 0)) := by simp [lets, List.range_succ]
theorem lets_false (s : ByteArray) (k m : Nat) (hk : k < m) (h : letB (bt s k) ((k : Int) == 0) = false) : lets s m = false := by
 unfold lets; rw [List.all_eq_false]
 exact ⟨k, by simp [hk], by simp [h]⟩
def partB (s : ByteArray) : Bool := lets s s.size && !s.toList.isEmpty
def partsB (s : ByteArray) : List ByteArray := Lib.splitB ⟨#[47]⟩ 0 (Lib.countB s ⟨#[47]⟩) s
theorem partsB_len (s : ByteArray) : (partsB s).length = Lib.countB s ⟨#[47]⟩ + 1 := Lib.splitB_all ⟨#[47]⟩ (by decide) 0 _ s rfl
theorem partsB_le (s : ByteArray) : (partsB s).length ≤ s.size + 1 := by
 rw [partsB_len]; have := Lib.countB_le ⟨#[47]⟩ (by decide) s.size s (Nat.le_refl _)
 omega
def validB (s : ByteArray) : Bool := decide (s.size ≤ 60) && (partsB s).all partB
theorem badFrom_all (l : List ByteArray) (k : Nat) (h : ∀ j, j < k → ∀ x, l[j]? = some x → partB x = true) (hk : l.length ≤ k) : l.all partB = true := by
 rw [List.all_eq_true]; intro x hx; obtain ⟨j, hj, e⟩ := List.mem_iff_getElem.1 hx
 exact h j (by omega) x (by rw [List.getElem?_eq_getElem hj, e])
theorem bad_at (l : List ByteArray) (k : Nat) (x : ByteArray) (hx : l[k]? = some x) (h : partB x = false) : l.all partB = false := by
 rw [List.all_eq_false]
 exact ⟨x, List.mem_of_getElem? hx, by simp [h]⟩
end Go.Proofs.YtajplppeijmfpaaDoor.Nm

namespace Go.Proofs.YtajplppeijmfpaaDoor.Nm
open Go Go.RowKit
set_option linter.unusedVariables false
set_option linter.unusedSimpArgs false
def cutAt (c : UInt8) : List UInt8 → List (List UInt8)
 | [] => [[]]
 | b :: r => if b = c then [] :: cutAt c r else match cutAt c r with
  | [] => [[b]]
  | p :: ps => (b :: p) :: ps
theorem cutAt_ne (c : UInt8) (l : List UInt8) : cutAt c l ≠ [] := by
 cases l with
 | nil => simp [cutAt]
 | cons b r =>
  unfold cutAt
  split
  ·simp
  ·split <;> simp
theorem cutAt_snoc (c : UInt8) (l : List UInt8) (b : UInt8) (L : List (List UInt8)) (P : List UInt8) (h : cutAt c l = L ++ [P]) :
  cutAt c (l ++ [b]) = if b = c then L ++ [P] ++ [[]] else L ++ [P ++ [b]] := by
 induction l generalizing L P with
 | nil =>
  simp only [cutAt] at h
  have : L = [] ∧ P = [] := by
   cases L with
   | nil => simpa using h.symm
   | cons x L => simp at h
  obtain ⟨rfl, rfl⟩ := this
  by_cases hb : b = c <;> simp [cutAt, hb]
 | cons a r ih =>
  rw [List.cons_append]; unfold cutAt; unfold cutAt at h
  by_cases ha : a = c
  ·rw [if_pos ha] at h ⊢
   cases L with
   | nil => simp at h; exact absurd h.2 (cutAt_ne c r)
   | cons x L =>
    simp only [List.cons_append, List.cons.injEq] at h; obtain ⟨rfl, h⟩ := h; rw [ih L P h]
    split <;> simp
  ·rw [if_neg ha] at h ⊢
   cases hr : cutAt c r with
   | nil => exact absurd hr (cutAt_ne c r)
   | cons p ps =>
    rw [hr] at h; simp only at h
    cases L with
    | nil =>
     simp only [List.nil_append, List.cons.injEq] at h; obtain ⟨rfl, rfl⟩ := h; have := ih [] p (by simpa using hr); rw [this]
     by_cases hb : b = c <;> simp [hb]
    | cons x L =>
     simp only [List.cons_append, List.cons.injEq] at h; obtain ⟨rfl, rfl⟩ := h; have := ih (p :: L) P (by simpa using hr); rw [this]
     by_cases hb : b = c <;> simp [hb]
theorem splitK_miss (c : UInt8) (k : Nat) (s : List UInt8) (h : Lib.index s [c] = -1) : Lib.splitK [c] 0 k s = [s] := by
 cases k with
 | zero => rfl
 | succ k => rw [Lib.splitK, if_pos (by simp [h])]
theorem splitK_hit (c : UInt8) (k : Nat) (s : List UInt8) (i : Nat) (h : Lib.index s [c] = i) : Lib.splitK [c] 0 (k + 1) s = s.take i :: Lib.splitK [c] 0 k (s.drop (i + 1)) := by
 rw [Lib.splitK, if_neg (by simp [h]), h]; simp
theorem index_cons (c b : UInt8) (l : List UInt8) : Lib.index (b :: l) [c] = if b = c then 0 else if Lib.index l [c] = -1 then -1 else Lib.index l [c] + 1 := by
 rw [Lib.index]
 by_cases h : b = c
 ·subst h; simp [List.isPrefixOf]
 ·have : ¬ c = b := fun e => h e.symm
  simp [List.isPrefixOf, h, this]
theorem splitK_cut (c : UInt8) : ∀ s : List UInt8, Lib.splitK [c] 0 (Lib.count s [c]) s = cutAt c s := by
 intro s
 induction s with
 | nil =>
  rw [splitK_miss c _ [] (by simp [Lib.index])]
  rfl
 | cons b l ih =>
  unfold cutAt
  by_cases hb : b = c
  ·subst hb
   rw [if_pos rfl, Lib.count_cons_eq, Nat.add_comm, splitK_hit b _ _ 0 (by rw [index_cons, if_pos rfl]; rfl)]; simp [ih]
  ·rw [if_neg hb, Lib.count_cons_ne b c l hb, ← ih]
   by_cases hm : Lib.index l [c] = -1
   ·rw [splitK_miss c _ l hm, splitK_miss c _ (b :: l) (by rw [index_cons, if_neg hb, if_pos hm])]
   ·have hge := Lib.index_ge l [c]
    obtain ⟨i, hi⟩ : ∃ i : Nat, Lib.index l [c] = i := ⟨(Lib.index l [c]).toNat, by omega⟩
    have hpos : Lib.count l [c] ≠ 0 := by
     rw [Lib.count_one]
     have h1 : Lib.indexByte l c = (i : Int) := by rw [← Lib.index_one]; exact hi
     have h2 := (Lib.indexByte_some h1).1; have h3 : c ∈ l := List.mem_of_getElem? h2; have := List.count_pos_iff.2 h3
     omega
    obtain ⟨k, hk⟩ : ∃ k, Lib.count l [c] = k + 1 := ⟨Lib.count l [c] - 1, by omega⟩
    rw [hk, splitK_hit c k l i hi, splitK_hit c k (b :: l) (i + 1) (by rw [index_cons, if_neg hb, if_neg hm, hi]; simp)]; simp
theorem partsB_data (s : ByteArray) : (partsB s).map (·.data.toList) = cutAt 47 s.data.toList := by
 unfold partsB; rw [Lib.splitB_data, ← splitK_cut]
def rparts (s : ByteArray) : Nat → List ByteArray × Nat
 | 0 => ([], 0)
 | k + 1 => if bt s k = 47 then ((rparts s k).1 ++ [s.extract (rparts s k).2 k], k + 1) else rparts s k
theorem rparts_succ (s : ByteArray) (k : Nat) : rparts s (k + 1) = if bt s k = 47 then ((rparts s k).1 ++ [s.extract (rparts s k).2 k], k + 1) else rparts s k := rfl
theorem rparts_le (s : ByteArray) (k : Nat) : (rparts s k).2 ≤ k ∧ (rparts s k).1.length ≤ k := by
 induction k with
 | zero => simp [rparts]
 | succ k ih =>
  unfold rparts
  split
  ·simp; omega
  ·omega
theorem ex_data (s : ByteArray) (i j : Nat) : (s.extract i j).data.toList = (s.data.toList.take j).drop i := by
 rw [Lib.extract_data]; simp [List.drop_take]
theorem rparts_cut (s : ByteArray) (k : Nat) (hk : k ≤ s.size) :
  cutAt 47 (s.data.toList.take k) = (rparts s k).1.map (·.data.toList) ++ [(s.extract (rparts s k).2 k).data.toList] := by
 induction k with
 | zero => simp [rparts, cutAt]
 | succ k ih =>
  have ih := ih (by omega)
  have hlen : k < s.data.toList.length := by rw [Array.length_toList]; exact hk
  have hle := (rparts_le s k).1
  have hbt : bt s k = 47 ↔ s.data.toList[k] = 47 := by
   unfold bt; rw [List.getD_eq_getElem?_getD, List.getElem?_eq_getElem hlen, Option.getD_some]
   constructor
   ·intro h
    apply UInt8.toNat_inj.1
    have : (47 : UInt8).toNat = 47 := rfl
    omega
   ·intro h; rw [h]; rfl
  rw [List.take_succ_eq_append_getElem hlen, cutAt_snoc 47 _ _ _ _ ih]; rw [rparts_succ]
  by_cases h : bt s k = 47
  ·rw [if_pos h, if_pos (hbt.1 h), List.map_append, ex_data s (k + 1) (k + 1)]
   simp
  ·rw [if_neg h, if_neg (fun e => h (hbt.2 e)), ex_data, ex_data, List.take_succ_eq_append_getElem hlen, List.drop_append_of_le_length (by rw [List.length_take]; omega)]
theorem bytes_inj {a b : ByteArray} (h : a.data.toList = b.data.toList) : a = b := by
 apply ByteArray.ext
 exact Array.toList_inj.1 h
theorem map_inj : ∀ {l m : List ByteArray}, l.map (·.data.toList) = m.map (·.data.toList) → l = m
 | [], [], _ => rfl
 | [], _ :: _, h => by simp at h
 | _ :: _, [], h => by simp at h
 | a :: l, b :: m, h => by
  simp only [List.map_cons, List.cons.injEq] at h; rw [bytes_inj h.1, map_inj h.2]
theorem rparts_all (s : ByteArray) : (rparts s s.size).1 ++ [s.extract (rparts s s.size).2 s.size] = partsB s := by
 apply map_inj
 rw [partsB_data, List.map_append]; have := rparts_cut s s.size (Nat.le_refl _); rw [List.take_of_length_le (by rw [Array.length_toList]; exact Nat.le_refl _)] at this; rw [this]
 rfl
theorem cutAt_len (c : UInt8) (l p : List UInt8) (h : p ∈ cutAt c l) : p.length ≤ l.length := by
 induction l generalizing p with
 | nil => simp [cutAt] at h; simp [h]
 | cons b r ih =>
  unfold cutAt at h
  split at h
  ·rcases List.mem_cons.1 h with rfl | h
   ·simp
   ·have := ih p h; simp only [List.length_cons]; omega
  ·split at h
   ·rename_i e; exact absurd e (cutAt_ne c r)
   ·rename_i q qs e
    rcases List.mem_cons.1 h with rfl | h
    ·have := ih q (by rw [e]; simp); simp only [List.length_cons]; omega
    ·have := ih p (by rw [e]; simp [h]); simp only [List.length_cons]; omega
theorem partsB_size (s x : ByteArray) (hx : x ∈ partsB s) : x.size ≤ s.size := by
 have h : x.data.toList ∈ cutAt 47 s.data.toList := by rw [← partsB_data]; exact List.mem_map_of_mem hx
 have := cutAt_len _ _ _ h; rw [Array.length_toList, Array.length_toList] at this
 exact this
end Go.Proofs.YtajplppeijmfpaaDoor.Nm

namespace Go.Proofs
open Go.Shelf
def Tryd.lays170_ren : Go.Shelf.Ren := ⟨fun | 170 => 54 | n => n, fun | 70 => 64 | 3 => 3 | 0 => 0 | 72 => 67 | 37 => 65 | 5 => 5 | n => n, fun | n => n⟩
theorem Tryd.lays170 : Go.Proofs.Lays.n170 Tryd.prog Tryd.lays170_ren := {
 mixed := by kernel_rfl
 f170 := Tryd.func54.trans (congrArg some (by kernel_rfl))
 t0 := Tryd.underlying0
 a0 := Tryd.isAgg0
 z0 := Tryd.sizeOf0
 v0 := Tryd.zeroValue0
 t3 := Tryd.underlying3
 a3 := Tryd.isAgg3
 z3 := Tryd.sizeOf3
 v3 := Tryd.zeroValue3
 t37 := Tryd.underlying65
 a37 := Tryd.isAgg65
 z37 := Tryd.sizeOf65
 v37 := Tryd.zeroValue65
 t70 := Tryd.underlying64
 a70 := Tryd.isAgg64
 z70 := Tryd.sizeOf64
 v70 := Tryd.zeroValue64
 t72 := Tryd.underlying67
 a72 := Tryd.isAgg67
 z72 := Tryd.sizeOf67
 v72 := Tryd.zeroValue67 }
open Go.RowKit in
theorem Tryd.Builder_Len (B b : Nat) (bs : List Value) (w : World) (h : Lib.IsBuilder 67 5 B b bs w) :
 Calls Tryd.prog 54 #[.pointer (some ⟨b, 0, none⟩)] w fun e w' => e = .returned (.int .i64 bs.length) ∧ w' = w := Any.Builder_Len Tryd.lays170 B b bs w h
def Tryd.lays169_ren : Go.Shelf.Ren := ⟨fun | 169 => 55 | n => n, fun | 70 => 64 | 9 => 9 | 0 => 0 | 72 => 67 | 37 => 65 | 127 => 100 | 3 => 3 | 5 => 5 | n => n, fun | n => n⟩
theorem Tryd.lays169 : Go.Proofs.Lays.n169 Tryd.prog Tryd.lays169_ren := {
 mixed := by kernel_rfl
 f169 := Tryd.func55.trans (congrArg some (by kernel_rfl))
 t0 := Tryd.underlying0
 a0 := Tryd.isAgg0
 z0 := Tryd.sizeOf0
 v0 := Tryd.zeroValue0
 t3 := Tryd.underlying3
 a3 := Tryd.isAgg3
 z3 := Tryd.sizeOf3
 v3 := Tryd.zeroValue3
 t9 := Tryd.underlying9
 a9 := Tryd.isAgg9
 z9 := Tryd.sizeOf9
 v9 := Tryd.zeroValue9
 t37 := Tryd.underlying65
 a37 := Tryd.isAgg65
 z37 := Tryd.sizeOf65
 v37 := Tryd.zeroValue65
 t70 := Tryd.underlying64
 a70 := Tryd.isAgg64
 z70 := Tryd.sizeOf64
 v70 := Tryd.zeroValue64
 t72 := Tryd.underlying67
 a72 := Tryd.isAgg67
 z72 := Tryd.sizeOf67
 v72 := Tryd.zeroValue67
 t127 := Tryd.underlying100
 a127 := Tryd.isAgg100
 z127 := Tryd.sizeOf100
 v127 := Tryd.zeroValue100 }
theorem Tryd.Builder_Extra_169 : Builder.Extra Tryd.prog Tryd.lays169_ren := {
 sizeBuilder := by kernel_rfl
 liesBuilder := by kernel_rfl
 t5 := Tryd.underlying5
 a5 := Tryd.isAgg5
 z5 := Tryd.sizeOf5
 v5 := Tryd.zeroValue5
 infoByte := by kernel_rfl
 cellsByte := by kernel_rfl
 sizeByte := by kernel_rfl
 neB5 := by decide }
open Go.RowKit in
theorem Tryd.Builder_String (B b : Nat) (l : List UInt8) (w : World) (h : Lib.IsBuilder 67 5 B b (Lib.byteCells l) w) (h0 : l ≠ []) :
 Calls Tryd.prog 55 #[.pointer (some ⟨b, 0, none⟩)] w fun e w' => e = .returned (.string ⟨l.toArray⟩) ∧ Below B w w' := Any.Builder_String Tryd.lays169 Tryd.Builder_Extra_169 B b l w h h0
def Tryd.lays219_ren : Go.Shelf.Ren := ⟨fun | 219 => 91 | 217 => 95 | 225 => 96 | 224 => 97 | 267 => 98 | 266 => 99 | 314 => 100 | n => n, fun | 9 => 9 | 3 => 3 | 4 => 4 | 5 => 5 | 46 => 110 | 146 => 118 | 51 => 117 | n => n, fun | 1 => 0 | n => n⟩
theorem Tryd.lays219 : Go.Proofs.Lays.n219 Tryd.prog Tryd.lays219_ren := {
 mixed := by kernel_rfl
 f217 := Tryd.func95.trans (congrArg some (by kernel_rfl))
 f219 := Tryd.func91.trans (congrArg some (by kernel_rfl))
 f224 := Tryd.func97.trans (congrArg some (by kernel_rfl))
 f225 := Tryd.func96.trans (congrArg some (by kernel_rfl))
 f266 := Tryd.func99.trans (congrArg some (by kernel_rfl))
 f267 := Tryd.func98.trans (congrArg some (by kernel_rfl))
 f314 := Tryd.func100.trans (congrArg some (by kernel_rfl))
 t3 := Tryd.underlying3
 a3 := Tryd.isAgg3
 z3 := Tryd.sizeOf3
 v3 := Tryd.zeroValue3
 t4 := Tryd.underlying4
 a4 := Tryd.isAgg4
 z4 := Tryd.sizeOf4
 v4 := Tryd.zeroValue4
 t5 := Tryd.underlying5
 a5 := Tryd.isAgg5
 z5 := Tryd.sizeOf5
 v5 := Tryd.zeroValue5
 t9 := Tryd.underlying9
 a9 := Tryd.isAgg9
 z9 := Tryd.sizeOf9
 v9 := Tryd.zeroValue9
 t46 := Tryd.underlying110
 a46 := Tryd.isAgg110
 z46 := Tryd.sizeOf110
 v46 := Tryd.zeroValue110
 t51 := Tryd.underlying117
 a51 := Tryd.isAgg117
 z51 := Tryd.sizeOf117
 v51 := Tryd.zeroValue117
 t146 := Tryd.underlying118
 a146 := Tryd.isAgg118
 z146 := Tryd.sizeOf118
 v146 := Tryd.zeroValue118
 g1 := by kernel_rfl }
open Go.RowKit Go.Lib in
theorem Tryd.stringslite_Index_one (s : ByteArray) (c : UInt8) (w : World) :
 Calls Tryd.prog 91 #[.string s, .string ⟨#[c]⟩] w fun e w' => e = .returned (.int .i64 (Lib.indexByte s.data.toList c)) ∧ w' = w := Any.stringslite_Index_one Tryd.lays219 s c w
def Tryd.lays143_ren : Go.Shelf.Ren := ⟨fun | 143 => 82 | 219 => 91 | 217 => 95 | 225 => 96 | 224 => 97 | 267 => 98 | 266 => 99 | 314 => 100 | n => n, fun | 9 => 9 | 3 => 3 | 4 => 4 | 5 => 5 | 46 => 110 | 146 => 118 | 51 => 117 | n => n, fun | 1 => 0 | n => n⟩
theorem Tryd.lays143 : Go.Proofs.Lays.n143 Tryd.prog Tryd.lays143_ren := {
 mixed := by kernel_rfl
 f143 := Tryd.func82.trans (congrArg some (by kernel_rfl))
 f217 := Tryd.func95.trans (congrArg some (by kernel_rfl))
 f219 := Tryd.func91.trans (congrArg some (by kernel_rfl))
 f224 := Tryd.func97.trans (congrArg some (by kernel_rfl))
 f225 := Tryd.func96.trans (congrArg some (by kernel_rfl))
 f266 := Tryd.func99.trans (congrArg some (by kernel_rfl))
 f267 := Tryd.func98.trans (congrArg some (by kernel_rfl))
 f314 := Tryd.func100.trans (congrArg some (by kernel_rfl))
 t3 := Tryd.underlying3
 a3 := Tryd.isAgg3
 z3 := Tryd.sizeOf3
 v3 := Tryd.zeroValue3
 t4 := Tryd.underlying4
 a4 := Tryd.isAgg4
 z4 := Tryd.sizeOf4
 v4 := Tryd.zeroValue4
 t5 := Tryd.underlying5
 a5 := Tryd.isAgg5
 z5 := Tryd.sizeOf5
 v5 := Tryd.zeroValue5
 t9 := Tryd.underlying9
 a9 := Tryd.isAgg9
 z9 := Tryd.sizeOf9
 v9 := Tryd.zeroValue9
 t46 := Tryd.underlying110
 a46 := Tryd.isAgg110
 z46 := Tryd.sizeOf110
 v46 := Tryd.zeroValue110
 t51 := Tryd.underlying117
 a51 := Tryd.isAgg117
 z51 := Tryd.sizeOf117
 v51 := Tryd.zeroValue117
 t146 := Tryd.underlying118
 a146 := Tryd.isAgg118
 z146 := Tryd.sizeOf118
 v146 := Tryd.zeroValue118
 g1 := by kernel_rfl }
open Go.RowKit Go.Lib in
theorem Tryd.strings_Index_one (s : ByteArray) (c : UInt8) (w : World) :
 Calls Tryd.prog 82 #[.string s, .string ⟨#[c]⟩] w fun e w' => e = .returned (.int .i64 (Lib.indexByte s.data.toList c)) ∧ w' = w := Any.strings_Index_one Tryd.lays143 s c w
def Tryd.lays145_ren : Go.Shelf.Ren := ⟨fun | 145 => 74 | 220 => 85 | 219 => 91 | 217 => 95 | 225 => 96 | 224 => 97 | 267 => 98 | 266 => 99 | 314 => 100 | n => n, fun | 9 => 9 | 4 => 4 | 59 => 102 | 3 => 3 | 5 => 5 | 46 => 110 | 146 => 118 | 51 => 117 | n => n, fun | 1 => 0 | n => n⟩
theorem Tryd.lays145 : Go.Proofs.Lays.n145 Tryd.prog Tryd.lays145_ren := {
 mixed := by kernel_rfl
 f145 := Tryd.func74.trans (congrArg some (by kernel_rfl))
 f217 := Tryd.func95.trans (congrArg some (by kernel_rfl))
 f219 := Tryd.func91.trans (congrArg some (by kernel_rfl))
 f220 := Tryd.func85.trans (congrArg some (by kernel_rfl))
 f224 := Tryd.func97.trans (congrArg some (by kernel_rfl))
 f225 := Tryd.func96.trans (congrArg some (by kernel_rfl))
 f266 := Tryd.func99.trans (congrArg some (by kernel_rfl))
 f267 := Tryd.func98.trans (congrArg some (by kernel_rfl))
 f314 := Tryd.func100.trans (congrArg some (by kernel_rfl))
 t3 := Tryd.underlying3
 a3 := Tryd.isAgg3
 z3 := Tryd.sizeOf3
 v3 := Tryd.zeroValue3
 t4 := Tryd.underlying4
 a4 := Tryd.isAgg4
 z4 := Tryd.sizeOf4
 v4 := Tryd.zeroValue4
 t5 := Tryd.underlying5
 a5 := Tryd.isAgg5
 z5 := Tryd.sizeOf5
 v5 := Tryd.zeroValue5
 t9 := Tryd.underlying9
 a9 := Tryd.isAgg9
 z9 := Tryd.sizeOf9
 v9 := Tryd.zeroValue9
 t46 := Tryd.underlying110
 a46 := Tryd.isAgg110
 z46 := Tryd.sizeOf110
 v46 := Tryd.zeroValue110
 t51 := Tryd.underlying117
 a51 := Tryd.isAgg117
 z51 := Tryd.sizeOf117
 v51 := Tryd.zeroValue117
 t59 := Tryd.underlying102
 a59 := Tryd.isAgg102
 z59 := Tryd.sizeOf102
 v59 := Tryd.zeroValue102
 t146 := Tryd.underlying118
 a146 := Tryd.isAgg118
 z146 := Tryd.sizeOf118
 v146 := Tryd.zeroValue118
 g1 := by kernel_rfl }
def Tryd.lays138_ren : Go.Shelf.Ren := ⟨fun | 138 => 81 | 195 => 89 | 218 => 90 | 143 => 82 | 219 => 91 | 217 => 95 | 225 => 96 | 224 => 97 | 267 => 98 | 266 => 99 | 314 => 100 | n => n, fun | 9 => 9 | 3 => 3 | 4 => 4 | 5 => 5 | 0 => 0 | 46 => 110 | 146 => 118 | 51 => 117 | n => n, fun | 1 => 0 | n => n⟩
theorem Tryd.lays138 : Go.Proofs.Lays.n138 Tryd.prog Tryd.lays138_ren := {
 mixed := by kernel_rfl
 f138 := Tryd.func81.trans (congrArg some (by kernel_rfl))
 f143 := Tryd.func82.trans (congrArg some (by kernel_rfl))
 f195 := Tryd.func89.trans (congrArg some (by kernel_rfl))
 f217 := Tryd.func95.trans (congrArg some (by kernel_rfl))
 f218 := Tryd.func90.trans (congrArg some (by kernel_rfl))
 f219 := Tryd.func91.trans (congrArg some (by kernel_rfl))
 f224 := Tryd.func97.trans (congrArg some (by kernel_rfl))
 f225 := Tryd.func96.trans (congrArg some (by kernel_rfl))
 f266 := Tryd.func99.trans (congrArg some (by kernel_rfl))
 f267 := Tryd.func98.trans (congrArg some (by kernel_rfl))
 f314 := Tryd.func100.trans (congrArg some (by kernel_rfl))
 t0 := Tryd.underlying0
 a0 := Tryd.isAgg0
 z0 := Tryd.sizeOf0
 v0 := Tryd.zeroValue0
 t3 := Tryd.underlying3
 a3 := Tryd.isAgg3
 z3 := Tryd.sizeOf3
 v3 := Tryd.zeroValue3
 t4 := Tryd.underlying4
 a4 := Tryd.isAgg4
 z4 := Tryd.sizeOf4
 v4 := Tryd.zeroValue4
 t5 := Tryd.underlying5
 a5 := Tryd.isAgg5
 z5 := Tryd.sizeOf5
 v5 := Tryd.zeroValue5
 t9 := Tryd.underlying9
 a9 := Tryd.isAgg9
 z9 := Tryd.sizeOf9
 v9 := Tryd.zeroValue9
 t46 := Tryd.underlying110
 a46 := Tryd.isAgg110
 z46 := Tryd.sizeOf110
 v46 := Tryd.zeroValue110
 t51 := Tryd.underlying117
 a51 := Tryd.isAgg117
 z51 := Tryd.sizeOf117
 v51 := Tryd.zeroValue117
 t146 := Tryd.underlying118
 a146 := Tryd.isAgg118
 z146 := Tryd.sizeOf118
 v146 := Tryd.zeroValue118
 g1 := by kernel_rfl }
open Go.RowKit Go.Lib in
theorem Tryd.strings_Count_one (s : ByteArray) (c : UInt8) (w : World) :
 Calls Tryd.prog 81 #[.string s, .string ⟨#[c]⟩] w fun e w' => e = .returned (.int .i64 (Lib.countByte s.data.toList c)) ∧ w' = w := Any.strings_Count_one Tryd.lays138 s c w
def Tryd.lays146_ren : Go.Shelf.Ren := ⟨fun | 146 => 49 | 221 => 70 | 268 => 80 | 138 => 81 | 143 => 82 | 195 => 89 | 197 => 87 | 218 => 90 | 219 => 91 | 260 => 94 | 217 => 95 | 225 => 96 | 224 => 97 | 267 => 98 | 266 => 99 | 314 => 100 | n => n, fun | 9 => 9 | 31 => 32 | 3 => 3 | 4 => 4 | 0 => 0 | 105 => 113 | 21 => 21 | 5 => 5 | 46 => 110 | 119 => 124 | 139 => 127 | 138 => 126 | 146 => 118 | 51 => 117 | n => n, fun | 1 => 0 | 3 => 1 | 4 => 2 | n => n⟩
theorem Tryd.lays146 : Go.Proofs.Lays.n146 Tryd.prog Tryd.lays146_ren := {
 mixed := by kernel_rfl
 f138 := Tryd.func81.trans (congrArg some (by kernel_rfl))
 f143 := Tryd.func82.trans (congrArg some (by kernel_rfl))
 f146 := Tryd.func49.trans (congrArg some (by kernel_rfl))
 f195 := Tryd.func89.trans (congrArg some (by kernel_rfl))
 f197 := Tryd.func87.trans (congrArg some (by kernel_rfl))
 f217 := Tryd.func95.trans (congrArg some (by kernel_rfl))
 f218 := Tryd.func90.trans (congrArg some (by kernel_rfl))
 f219 := Tryd.func91.trans (congrArg some (by kernel_rfl))
 f221 := Tryd.func70.trans (congrArg some (by kernel_rfl))
 f224 := Tryd.func97.trans (congrArg some (by kernel_rfl))
 f225 := Tryd.func96.trans (congrArg some (by kernel_rfl))
 f260 := Tryd.func94.trans (congrArg some (by kernel_rfl))
 f266 := Tryd.func99.trans (congrArg some (by kernel_rfl))
 f267 := Tryd.func98.trans (congrArg some (by kernel_rfl))
 f268 := Tryd.func80.trans (congrArg some (by kernel_rfl))
 f314 := Tryd.func100.trans (congrArg some (by kernel_rfl))
 t0 := Tryd.underlying0
 a0 := Tryd.isAgg0
 z0 := Tryd.sizeOf0
 v0 := Tryd.zeroValue0
 t3 := Tryd.underlying3
 a3 := Tryd.isAgg3
 z3 := Tryd.sizeOf3
 v3 := Tryd.zeroValue3
 t4 := Tryd.underlying4
 a4 := Tryd.isAgg4
 z4 := Tryd.sizeOf4
 v4 := Tryd.zeroValue4
 t5 := Tryd.underlying5
 a5 := Tryd.isAgg5
 z5 := Tryd.sizeOf5
 v5 := Tryd.zeroValue5
 t9 := Tryd.underlying9
 a9 := Tryd.isAgg9
 z9 := Tryd.sizeOf9
 v9 := Tryd.zeroValue9
 t21 := Tryd.underlying21
 a21 := Tryd.isAgg21
 z21 := Tryd.sizeOf21
 v21 := Tryd.zeroValue21
 t31 := Tryd.underlying32
 a31 := Tryd.isAgg32
 z31 := Tryd.sizeOf32
 v31 := Tryd.zeroValue32
 t46 := Tryd.underlying110
 a46 := Tryd.isAgg110
 z46 := Tryd.sizeOf110
 v46 := Tryd.zeroValue110
 t51 := Tryd.underlying117
 a51 := Tryd.isAgg117
 z51 := Tryd.sizeOf117
 v51 := Tryd.zeroValue117
 t105 := Tryd.underlying113
 a105 := Tryd.isAgg113
 z105 := Tryd.sizeOf113
 v105 := Tryd.zeroValue113
 t119 := Tryd.underlying124
 a119 := Tryd.isAgg124
 z119 := Tryd.sizeOf124
 t138 := Tryd.underlying126
 a138 := Tryd.isAgg126
 z138 := Tryd.sizeOf126
 v138 := Tryd.zeroValue126
 t139 := Tryd.underlying127
 a139 := Tryd.isAgg127
 z139 := Tryd.sizeOf127
 v139 := Tryd.zeroValue127
 t146 := Tryd.underlying118
 a146 := Tryd.isAgg118
 z146 := Tryd.sizeOf118
 v146 := Tryd.zeroValue118
 g1 := by kernel_rfl
 g3 := by kernel_rfl
 g4 := by kernel_rfl }
def Tryd.lays105_ren : Go.Shelf.Ren := ⟨fun | 105 => 72 | 212 => 84 | 99 => 61 | 165 => 67 | 166 => 52 | 170 => 54 | 169 => 55 | 263 => 92 | 264 => 93 | 206 => 75 | 240 => 71 | 241 => 79 | 276 => 83 | 277 => 88 | n => n, fun | 9 => 9 | 3 => 3 | 4 => 4 | 20 => 20 | 0 => 0 | 46 => 110 | 109 => 111 | 5 => 5 | 72 => 67 | 76 => 72 | 51 => 117 | 146 => 118 | 53 => 120 | 148 => 121 | 70 => 64 | 37 => 65 | 75 => 70 | 127 => 100 | 164 => 108 | 80 => 76 | n => n, fun | n => n⟩
theorem Tryd.lays105 : Go.Proofs.Lays.n105 Tryd.prog Tryd.lays105_ren := {
 mixed := by kernel_rfl
 f99 := Tryd.func61.trans (congrArg some (by kernel_rfl))
 f105 := Tryd.func72.trans (congrArg some (by kernel_rfl))
 f165 := Tryd.func67.trans (congrArg some (by kernel_rfl))
 f166 := Tryd.func52.trans (congrArg some (by kernel_rfl))
 f169 := Tryd.func55.trans (congrArg some (by kernel_rfl))
 f170 := Tryd.func54.trans (congrArg some (by kernel_rfl))
 f206 := Tryd.func75.trans (congrArg some (by kernel_rfl))
 f212 := Tryd.func84.trans (congrArg some (by kernel_rfl))
 f240 := Tryd.func71.trans (congrArg some (by kernel_rfl))
 f241 := Tryd.func79.trans (congrArg some (by kernel_rfl))
 f263 := Tryd.func92.trans (congrArg some (by kernel_rfl))
 f264 := Tryd.func93.trans (congrArg some (by kernel_rfl))
 f276 := Tryd.func83.trans (congrArg some (by kernel_rfl))
 f277 := Tryd.func88.trans (congrArg some (by kernel_rfl))
 t0 := Tryd.underlying0
 a0 := Tryd.isAgg0
 z0 := Tryd.sizeOf0
 v0 := Tryd.zeroValue0
 t3 := Tryd.underlying3
 a3 := Tryd.isAgg3
 z3 := Tryd.sizeOf3
 v3 := Tryd.zeroValue3
 t4 := Tryd.underlying4
 a4 := Tryd.isAgg4
 z4 := Tryd.sizeOf4
 v4 := Tryd.zeroValue4
 t5 := Tryd.underlying5
 a5 := Tryd.isAgg5
 z5 := Tryd.sizeOf5
 v5 := Tryd.zeroValue5
 t9 := Tryd.underlying9
 a9 := Tryd.isAgg9
 z9 := Tryd.sizeOf9
 v9 := Tryd.zeroValue9
 t20 := Tryd.underlying20
 a20 := Tryd.isAgg20
 z20 := Tryd.sizeOf20
 v20 := Tryd.zeroValue20
 t37 := Tryd.underlying65
 a37 := Tryd.isAgg65
 z37 := Tryd.sizeOf65
 v37 := Tryd.zeroValue65
 t46 := Tryd.underlying110
 a46 := Tryd.isAgg110
 z46 := Tryd.sizeOf110
 v46 := Tryd.zeroValue110
 t51 := Tryd.underlying117
 a51 := Tryd.isAgg117
 z51 := Tryd.sizeOf117
 v51 := Tryd.zeroValue117
 t53 := Tryd.underlying120
 a53 := Tryd.isAgg120
 z53 := Tryd.sizeOf120
 v53 := Tryd.zeroValue120
 t70 := Tryd.underlying64
 a70 := Tryd.isAgg64
 z70 := Tryd.sizeOf64
 v70 := Tryd.zeroValue64
 t72 := Tryd.underlying67
 a72 := Tryd.isAgg67
 z72 := Tryd.sizeOf67
 v72 := Tryd.zeroValue67
 t75 := Tryd.underlying70
 a75 := Tryd.isAgg70
 z75 := Tryd.sizeOf70
 v75 := Tryd.zeroValue70
 t76 := Tryd.underlying72
 a76 := Tryd.isAgg72
 z76 := Tryd.sizeOf72
 v76 := Tryd.zeroValue72
 t109 := Tryd.underlying111
 a109 := Tryd.isAgg111
 z109 := Tryd.sizeOf111
 v109 := Tryd.zeroValue111
 t127 := Tryd.underlying100
 a127 := Tryd.isAgg100
 z127 := Tryd.sizeOf100
 v127 := Tryd.zeroValue100
 t146 := Tryd.underlying118
 a146 := Tryd.isAgg118
 z146 := Tryd.sizeOf118
 v146 := Tryd.zeroValue118
 t148 := Tryd.underlying121
 a148 := Tryd.isAgg121
 z148 := Tryd.sizeOf121
 v148 := Tryd.zeroValue121
 t164 := Tryd.underlying108
 a164 := Tryd.isAgg108
 z164 := Tryd.sizeOf108
 v164 := Tryd.zeroValue108 }
theorem Tryd.Builder_Extra_105 : Builder.Extra Tryd.prog Tryd.lays105_ren := {
 sizeBuilder := by kernel_rfl
 liesBuilder := by kernel_rfl
 t5 := Tryd.underlying5
 a5 := Tryd.isAgg5
 z5 := Tryd.sizeOf5
 v5 := Tryd.zeroValue5
 infoByte := by kernel_rfl
 cellsByte := by kernel_rfl
 sizeByte := by kernel_rfl
 neB5 := by decide }
open Go.RowKit Go.Lib in
theorem Tryd.strings_Repeat (s : ByteArray) (c : Nat) (w : World) (hc : c ≤ 9223372036854775807) (hlen : s.size * c ≤ 140737488355328) :
 Calls Tryd.prog 72 #[.string s, .int .i64 c] w fun e w' => e = .returned (.string ⟨(Lib.repeatL s.data.toList c).toArray⟩) ∧ Below w.heap.size w w' := Any.strings_Repeat Tryd.lays105 Tryd.Builder_Extra_105 s c w hc hlen
end Go.Proofs

namespace Go.Proofs.YtajplppeijmfpaaDoor.Lib1
open Go Go.Shelf Go.RowKit Go.Lib
set_option linter.unusedVariables false
set_option linter.unusedSimpArgs false
section
variable {P : Program} {ρ : Ren}
theorem index1 (L : Lays.n143 P ρ) (s : ByteArray) (c : UInt8) (w : World) :
  Calls P (ρ.f 143) #[.string s, .string ⟨#[c]⟩] w fun e w' => e = .returned (.int .i64 (Lib.indexB s ⟨#[c]⟩)) ∧ w' = w := by
 refine (Any.strings_Index_one L s c w).mono fun e w' ⟨he, hw⟩ => ⟨?_, hw⟩
 rw [he]
 show _ = Ending.returned (Value.int .i64 (Lib.index s.data.toList [c]))
 rw [Lib.index_one]
theorem genSplit1 (L : Lays.n221 P ρ) (hi9 : (P.info? (ρ.t 9)).map (fun i => (i.zero, i.size, i.bytes)) = some (some (.string ByteArray.empty), 1, 16)) (s : ByteArray) (c : UInt8) (n : Int) (N : Nat) (w : World)
  (hs : s.size < 4294967281) (hn0 : n ≠ 0) (hn63 : n ≤ 9223372036854775807) (hN : (N : Int) = min (if n < 0 then (Lib.countB s ⟨#[c]⟩ : Int) + 1 else n) ((s.size : Int) + 1)) :
  Calls P (ρ.f 221) #[.string s, .string ⟨#[c]⟩, .int .i64 ((0 : Nat) : Int), .int .i64 n] w fun e w' =>
   e = .returned (.slice (some ⟨w.heap.size, 0, none⟩) (Lib.splitB ⟨#[c]⟩ 0 (N - 1) s).length N) ∧ w' = w.alloc (.cells (Lib.cellsOf (Lib.splitB ⟨#[c]⟩ 0 (N - 1) s) N) (ρ.t 9)) :=
 Any.strings_genSplit_core L hi9 s ⟨#[c]⟩ 0 n N w hs (Nat.le_refl _) (Nat.zero_le _)
  (fun x cs hx => index1 { L with } x c _)
  ((Any.strings_Count_one { L with } s c w).mono fun e w' ⟨he, hw⟩ => ⟨by rw [he]; show _ = Ending.returned (Value.int .i64 ((Lib.count s.data.toList [c] : Nat) : Int)); rw [Lib.count_one]; rfl, hw⟩) hn0 hn63 hN
set_option maxHeartbeats 1000000 in
theorem split1 (L : Lays.n146 P ρ) (hi9 : (P.info? (ρ.t 9)).map (fun i => (i.zero, i.size, i.bytes)) = some (some (.string ByteArray.empty), 1, 16)) (s : ByteArray) (c : UInt8) (w : World) (hs : s.size < 4294967281) :
  Calls P (ρ.f 146) #[.string s, .string ⟨#[c]⟩] w fun e w' =>
   e = .returned (.slice (some ⟨w.heap.size, 0, none⟩) (Lib.countB s ⟨#[c]⟩ + 1) (Lib.countB s ⟨#[c]⟩ + 1)) ∧ w' = w.alloc (.cells ((Lib.splitB ⟨#[c]⟩ 0 (Lib.countB s ⟨#[c]⟩) s).map Value.string).toArray (ρ.t 9)) := by
 have h1 : 1 ≤ (⟨#[c]⟩ : ByteArray).size := Nat.le_refl _; have hle := Lib.countB_le ⟨#[c]⟩ h1 s.size s (Nat.le_refl _); have hlen := Lib.splitB_all ⟨#[c]⟩ h1 0 _ s rfl; have G := genSplit1 { L with } hi9 s c (-1) (Lib.countB s ⟨#[c]⟩ + 1) w hs (by decide) (by decide) (by rw [if_pos (by decide)]; omega); rw [Nat.add_sub_cancel, hlen] at G
 have e2 : Lib.cellsOf (Lib.splitB ⟨#[c]⟩ 0 (Lib.countB s ⟨#[c]⟩) s) (Lib.countB s ⟨#[c]⟩ + 1) = ((Lib.splitB ⟨#[c]⟩ 0 (Lib.countB s ⟨#[c]⟩) s).map Value.string).toArray := by rw [← hlen]; exact Lib.cellsOf_full _
 rw [e2] at G; clear e2 hle hlen; have t3 := L.t3; have t9 := L.t9; have t31 := L.t31; have a3 := L.a3; have a9 := L.a9; have a31 := L.a31; have z3 := L.z3; have v3 := L.v3; have z9 := L.z9; have v9 := L.v9; have z31 := L.z31; have v31 := L.v31; have e221 : ∀ args w, (callFunc (ρ.f 221) args).run P w = .ok (.enter (ρ.f 221) args) w := enters_of L.f221 (by kernel_rfl) rfl; go_enter L.f146, Body.n146_ntmps ρ; go_wp2_with (go_at_fn (ρ.f 221); refine G.mono ?_; rintro e w' ⟨rfl, hw⟩; rw [hw]); go_ret
 exact ⟨rfl, rfl⟩
set_option maxHeartbeats 2000000 in
set_option maxRecDepth 100000 in
theorem slcut1 (L : Lays.n220 P ρ) (s : ByteArray) (c : UInt8) (w : World) (hs : s.size < 4294967281) :
  Calls P (ρ.f 220) #[.string s, .string ⟨#[c]⟩] w fun e w' => e = .returned (.tuple #[.string ⟨(Lib.cut s.data.toList [c]).1.toArray⟩, .string ⟨(Lib.cut s.data.toList [c]).2.1.toArray⟩, .bool (Lib.cut s.data.toList [c]).2.2]) ∧ ∃ n, w' = w.drewN n := by
 have hsep : (⟨#[c]⟩ : ByteArray).data.toList = [c] := rfl; have hsz : (⟨#[c]⟩ : ByteArray).size = 1 := rfl; have I1 := fun (w : World) => Any.stringslite_Index_one { L with } s c w; rw [← Lib.index_one] at I1
 rcases Lib.indexB_cases s ⟨#[c]⟩ with hix | ⟨i, hix, hroom⟩
 ·obtain ⟨e1, e2, e3⟩ := Lib.cutB_miss s ⟨#[c]⟩ hix
  rw [hsep] at e1 e2 e3; rw [e1, e2, e3]; rw [show Lib.index s.data.toList [c] = _ from hix] at I1; have t3 := L.t3; have t4 := L.t4; have t9 := L.t9; have a3 : ∀ w, (isAgg (ρ.t 3)).run P w = .ok false w := run_isAgg_plain L.t3 rfl; have a4 : ∀ w, (isAgg (ρ.t 4)).run P w = .ok false w := run_isAgg_plain L.t4 rfl; have a9 : ∀ w, (isAgg (ρ.t 9)).run P w = .ok false w := run_isAgg_plain L.t9 rfl; have e219 : ∀ args w, (callFunc (ρ.f 219) args).run P w = .ok (.enter (ρ.f 219) args) w := enters_of L.f219 (by kernel_rfl) rfl; have mixed := L.mixed; have z3 := L.z3; have v3 := L.v3; have z4 := L.z4; have v4 := L.v4; have z9 := L.z9; have v9 := L.v9; clear e1 e2 e3 hsep hix; go_enter L.f220, Body.n220_ntmps ρ; go_wp2_with (go_at_fn (ρ.f 219); refine (I1 _).mono ?_; rintro e w' ⟨rfl, rfl⟩)
  go_ret3
  exact ⟨rfl, 0, rfl⟩
 ·obtain ⟨e1, e2, e3⟩ := Lib.cutB_hit s ⟨#[c]⟩ i hix
  rw [hsep] at e1 e2 e3; rw [hsz] at hroom; rw [hsz] at e2; rw [e1, e2, e3]; rw [show Lib.index s.data.toList [c] = _ from hix] at I1
  have c1 : (0 : Int) ≤ ↑i := by omega
  have c2 : (↑i : Int) ≤ ↑s.size := by omega
  have c3 : (0 : Int) ≤ ↑i + 1 := by omega
  have c4 : (↑i + 1 : Int) ≤ ↑s.size := by omega
  have t3 := L.t3; have t4 := L.t4; have t9 := L.t9; have a3 : ∀ w, (isAgg (ρ.t 3)).run P w = .ok false w := run_isAgg_plain L.t3 rfl; have a4 : ∀ w, (isAgg (ρ.t 4)).run P w = .ok false w := run_isAgg_plain L.t4 rfl; have a9 : ∀ w, (isAgg (ρ.t 9)).run P w = .ok false w := run_isAgg_plain L.t9 rfl; have e219 : ∀ args w, (callFunc (ρ.f 219) args).run P w = .ok (.enter (ρ.f 219) args) w := enters_of L.f219 (by kernel_rfl) rfl; have mixed := L.mixed; have z3 := L.z3; have v3 := L.v3; have z4 := L.z4; have v4 := L.v4; have z9 := L.z9; have v9 := L.v9; clear e1 e2 e3 hsep hix; go_enter L.f220, Body.n220_ntmps ρ; go_wp2_with (go_at_fn (ρ.f 219); refine (I1 _).mono ?_; rintro e w' ⟨rfl, rfl⟩)
  go_region_o
  go_wp2
  go_ret3
  exact ⟨rfl, 1, rfl⟩
set_option maxHeartbeats 1000000 in
theorem cut1 (L : Lays.n145 P ρ) (s : ByteArray) (c : UInt8) (w : World) (hs : s.size < 4294967281) :
  Calls P (ρ.f 145) #[.string s, .string ⟨#[c]⟩] w fun e w' => e = .returned (.tuple #[.string ⟨(Lib.cut s.data.toList [c]).1.toArray⟩, .string ⟨(Lib.cut s.data.toList [c]).2.1.toArray⟩, .bool (Lib.cut s.data.toList [c]).2.2]) ∧ ∃ n, w' = w.drewN n := by
 have t4 := L.t4; have t9 := L.t9; have t59 := L.t59; have a4 : ∀ w, (isAgg (ρ.t 4)).run P w = .ok false w := run_isAgg_plain L.t4 rfl; have a9 : ∀ w, (isAgg (ρ.t 9)).run P w = .ok false w := run_isAgg_plain L.t9 rfl; have a59 : ∀ w, (isAgg (ρ.t 59)).run P w = .ok false w := run_isAgg_plain L.t59 rfl; have e220 : ∀ args w, (callFunc (ρ.f 220) args).run P w = .ok (.enter (ρ.f 220) args) w := enters_of L.f220 (by kernel_rfl) rfl; have mixed := L.mixed; have z4 := L.z4; have v4 := L.v4; have z9 := L.z9; have v9 := L.v9; have z59 := L.z59; have v59 := L.v59; go_enter L.f145, Body.n145_ntmps ρ; go_wp2_with (go_at_fn (ρ.f 220); refine (slcut1 { L with } _ _ _ hs).mono ?_; rintro e w' ⟨rfl, n, rfl⟩)
 go_ret3
 exact ⟨rfl, n, rfl⟩
end
end Go.Proofs.YtajplppeijmfpaaDoor.Lib1

namespace Go.Proofs.YtajplppeijmfpaaDoor.Nm
open Go Go.RowKit
set_option linter.unusedVariables false
set_option linter.unusedSimpArgs false
set_option maxHeartbeats 400000
theorem letter_any (n : Int) (first : Bool) (h0 : 0 ≤ n) (h1 : n ≤ 255) (w : World) : Calls Tryd.prog 68 #[.int .u8 n, .bool first] w fun e w' => e = .returned (.bool (letB n first)) ∧ w' = w := by
 go_enter Tryd.func68, Tryd.ntmps68; go_wp2
 all_goals
  go_ret; refine ⟨ret_bool ?_, rfl⟩
  simp_all [letB]
 all_goals omega
theorem part_any (s : ByteArray) (hs : s.size ≤ 4611686018427387904) (w : World) : Calls Tryd.prog 46 #[.string s] w fun e w' => e = .returned (.bool (partB s)) ∧ w' = w := by
 go_enter Tryd.func46, Tryd.ntmps46; go_wp2
 go_loop [6] (fun i => ∃ k : Nat, k ≤ s.size ∧ i = .int .i64 k ∧ lets s k = true) (fun i => s.size - (intOf i).toNat)
 case atStart => exact ⟨0, Nat.zero_le _, rfl, rfl⟩
 case round =>
  obtain ⟨k, hk, rfl, hl⟩ := hrel; replace hl := Lib.hid hl
  by_cases hlt : k < s.size
  ·have hb := bt_at s k hlt
   have hr := bt_range s k; have hsn := lets_succ s k; generalize hbk : bt s k = n at *; replace hbk := Lib.hid hbk; replace hsn := Lib.hid hsn; go_wp2_with (go_at_call 68; refine (letter_any _ _ (by omega) (by omega) _).mono ?_; rintro e w1 ⟨rfl, rfl⟩)
   ·have hL : letB n ((k : Int) == 0) = false := by simp_all
    go_ret
    exact ⟨ret_bool (by rw [partB, lets_false s k s.size hlt (by rw [hbk.out]; exact hL)]; rfl), rfl⟩
   ·have hL : letB n ((k : Int) == 0) = true := by simp_all
    go_round
    case rel => exact ⟨k + 1, by omega, by go_num, by rw [hsn.out, hl.out, hL]; rfl⟩
    case measure => simp [intOf]; omega
  ·obtain rfl : k = s.size := by omega
   go_wp2; go_ret
   exact ⟨ret_bool (by rw [partB, hl.out]; rfl), rfl⟩
def ML (_ : World) : Prop := True
theorem ML.below {w w1 : World} (_ : ML w) (_ : Below w.heap.size w w1) : ML w1 := trivial
def strC (l : List ByteArray) : Array Value := (l.map Value.string).toArray
theorem parts_any (s : ByteArray) (hs : s.size < 4294967281) (w : World) (hm : ML w) : Calls Tryd.prog 22 #[.string s] w fun e w' =>
  e = .returned (.slice (some ⟨w.heap.size, 0, none⟩) (partsB s).length (partsB s).length) ∧ w' = w.alloc (.cells (strC (partsB s)) 9) := by
 have S := Lib1.split1 Tryd.lays146 (by kernel_rfl) s 47 w hs; rw [← partsB_len] at S; replace S := Lib.hid S; clear hm; go_enter Tryd.func22, Tryd.ntmps22; go_wp2_with (go_at_call 49; refine S.out.mono ?_; rintro e w1 ⟨rfl, rfl⟩); go_ret
 exact ⟨rfl, rfl⟩
theorem valid1_any (s : ByteArray) (hs : s.size ≤ 4611686018427387904) (w : World) : Calls Tryd.prog 65 #[.string s] w fun e w' => e = .returned (.bool (!partB s)) ∧ w' = w := by
 have P := Lib.hid (part_any s hs w); go_enter Tryd.func65, Tryd.ntmps65; go_wp2_with (go_at_call 46; refine P.out.mono ?_; rintro e w1 ⟨rfl, rfl⟩); go_ret
 exact ⟨rfl, rfl⟩
def RdS (w : World) (b o : Nat) (l : List ByteArray) : Prop := ∀ j x, l[j]? = some x → w.cell? ⟨b, o + j, none⟩ = some (.string x)
theorem RdS.below {w w1 : World} {b o : Nat} {l : List ByteArray} (h : RdS w b o l) (hb : Below w.heap.size w w1) : RdS w1 b o l := fun j x hx => bl_cell hb (h j x hx)
theorem RdS.new (w : World) (l : List ByteArray) (t : TypeId) : RdS (w.alloc (.cells (strC l) t)) w.heap.size 0 l := by
 intro j x hx; rw [Nat.zero_add, cell_new]; simp [strC, hx]
theorem indexFunc_any (l : List ByteArray) (hl : l.length ≤ 4611686018427387904) (hs : ∀ x ∈ l, x.size ≤ 4611686018427387904) (b o c : Nat) (w : World) (hr : RdS w b o l) :
  Calls Tryd.prog 77 #[.slice (some ⟨b, o, none⟩) l.length c, .func (.func 65) #[] #[]] w fun e w' => (∃ n : Int, e = .returned (.int .i64 n) ∧ decide (0 ≤ n) = !l.all partB) ∧ w' = w := by
 go_enter Tryd.func77, Tryd.ntmps77; go_wp2
 go_loop [8] (fun i => ∃ k : Nat, k ≤ l.length ∧ i = .int .i64 k ∧ Hid (∀ j, j < k → ∀ x, l[j]? = some x → partB x = true)) (fun i => l.length - (intOf i).toNat)
 case atStart => exact ⟨0, Nat.zero_le _, rfl, fun j hj => absurd hj (by omega)⟩
 case round =>
  obtain ⟨k, hk, rfl, hp⟩ := hrel; replace hr := Lib.hid hr; replace hs := Lib.hid hs
  by_cases hlt : k < l.length
  ·obtain ⟨x, hx⟩ : ∃ x, l[k]? = some x := ⟨_, List.getElem?_eq_getElem hlt⟩
   have hcell := hr.out k x hx; have V := Lib.hid (valid1_any x (hs.out x (List.mem_of_getElem? hx)) w); replace hx := Lib.hid hx; go_wp2_with (go_at_call 65; refine V.out.mono ?_; rintro e w1 ⟨rfl, rfl⟩)
   ·have hf : partB x = false := by simp_all
    go_ret
    exact ⟨⟨k, rfl, by rw [bad_at l k x hx.out hf]; simp⟩, rfl⟩
   ·have hf : partB x = true := by simp_all
    go_round
    case rel => exact ⟨k + 1, by omega, by go_num, fun j hj y hy => by
     by_cases e : j = k
     ·subst e
      rw [hx.out] at hy
      cases hy
      exact hf
     ·exact hp.out j (by omega) y hy⟩
    case measure => simp [intOf]; omega
  ·go_wp2
   go_ret
   exact ⟨⟨-1, rfl, by rw [badFrom_all l k hp.out (by omega)]; rfl⟩, rfl⟩
theorem containsFunc_any (l : List ByteArray) (hl : l.length ≤ 4611686018427387904) (hs : ∀ x ∈ l, x.size ≤ 4611686018427387904) (b o c : Nat) (w : World) (hr : RdS w b o l) :
  Calls Tryd.prog 64 #[.slice (some ⟨b, o, none⟩) l.length c, .func (.func 65) #[] #[]] w fun e w' => e = .returned (.bool (!l.all partB)) ∧ w' = w := by
 have I := Lib.hid (indexFunc_any l hl hs b o c w hr); clear hs hr; go_enter Tryd.func64, Tryd.ntmps64; go_wp2_with (go_at_call 77; refine I.out.mono ?_; rintro e w1 ⟨⟨n, rfl, hn⟩, rfl⟩; replace hn := Lib.hid hn); go_ret
 exact ⟨ret_bool hn.out, rfl⟩
theorem valid_any (s : ByteArray) (w : World) (hm : ML w) : Calls Tryd.prog 43 #[.string s] w fun e w' => e = .returned (.bool (validB s)) ∧ Below w.heap.size w w' := by
 by_cases h60 : s.size ≤ 60
 ·have P := Lib.hid (parts_any s (by omega) w hm)
  have hle := partsB_le s; have C := Lib.hid (containsFunc_any (partsB s) (by omega) (fun x hx => by have := partsB_size s x hx; omega) w.heap.size 0 (partsB s).length _ (RdS.new w (partsB s) 9)); clear hm; go_enter Tryd.func43, Tryd.ntmps43
  go_wp2_with (first
   | (go_at_call 22; refine P.out.mono ?_; rintro e w1 ⟨rfl, rfl⟩)
   | (go_at_call 64; refine C.out.mono ?_; rintro e w1 ⟨rfl, rfl⟩))
  go_ret
  exact ⟨ret_bool (by simp [validB, h60]), (Below.refl _ _).alloc (Nat.le_refl _) _⟩
 ·have h60' : decide (s.size ≤ 60) = false := by simpa using h60
  clear hm; go_enter Tryd.func43, Tryd.ntmps43; go_wp2_with fail; go_ret
  exact ⟨ret_bool (by rw [validB, h60']; rfl), Below.refl _ _⟩
def slash (s : ByteArray) : Int := Lib.lastIndexByte s 47
def simpleB (s : ByteArray) : ByteArray := s.extract (slash s + 1).toNat s.size
end Go.Proofs.YtajplppeijmfpaaDoor.Nm

namespace Go.Proofs.YtajplppeijmfpaaDoor.Ty
open Go Go.RowKit Go.Proofs.YtajplppeijmfpaaDoor.Nm
set_option linter.unusedVariables false
set_option linter.unusedSimpArgs false
def bs (l : List UInt8) : ByteArray := ⟨l.toArray⟩
theorem mk_size (l : List UInt8) : (bs l).size = l.length := by show l.toArray.size = _; simp
theorem mk_toList (l : List UInt8) : (bs l).data.toList = l := by simp [bs]
theorem mk_data (s : ByteArray) : bs s.data.toList = s := by cases s; simp [bs]
def opens : List UInt8 → Nat
 | [] => 0
 | x :: l => if x = 91 then opens l + 1 else 0
def past : List UInt8 → List UInt8
 | [] => []
 | x :: l => if x = 91 then past l else x :: l
def upTo : List UInt8 → List UInt8
 | [] => []
 | x :: l => if x = 59 then [] else x :: upTo l
def behind : List UInt8 → Option (List UInt8)
 | [] => none
 | x :: l => if x = 59 then some l else behind l
structure Rd where
 dims : Nat
 name : List UInt8
 rest : Option (List UInt8)
def rd (l : List UInt8) : Rd :=
 match past l with
 | [] => ⟨opens l, [], none⟩
 | x :: r =>
  if x = 73 then ⟨opens l, [], some r⟩
  else if x = 76 then
   ⟨opens l, upTo r, if validB (bs (upTo r)) then behind r else none⟩
  else ⟨opens l, [], none⟩
theorem past_opens (l : List UInt8) : opens l + (past l).length = l.length := by
 induction l with
 | nil => rfl
 | cons x l ih => rw [opens, past]; split <;> simp; omega
theorem behind_len (l r : List UInt8) (h : behind l = some r) : r.length < l.length := by
 induction l with
 | nil => cases h
 | cons x l ih =>
  rw [behind] at h
  split at h
  ·cases h; simp
  ·have := ih h; simp; omega
theorem rd_len (l r : List UInt8) (h : (rd l).rest = some r) : (rd l).dims + r.length < l.length := by
 have hp := past_opens l
 revert h
 rw [rd]
 split
 ·intro h; cases h
 ·rename_i x q hq
  rw [hq] at hp; simp only [List.length_cons] at hp
  split
  ·intro h; cases h; show opens l + _ < _; omega
  ·split
   ·intro h
    simp only at h
    split at h
    ·have := behind_len _ _ h; show opens l + _ < _; omega
    ·cases h
   ·intro h; cases h
theorem opens_le (l : List UInt8) : opens l ≤ l.length := by have := past_opens l; omega
theorem past_self (q : List UInt8) (h : ∀ r, q ≠ 91 :: r) : past q = q ∧ opens q = 0 := by
 cases q with
 | nil => exact ⟨rfl, rfl⟩
 | cons x r =>
  have hx : x ≠ 91 := fun e => h r (by rw [e]); simp [past, opens, hx]
theorem index59 (l : List UInt8) : (behind l = none ∧ Lib.index l [59] = -1 ∧ upTo l = l) ∨ (∃ n : Nat, Lib.index l [59] = n ∧ upTo l = l.take n ∧ behind l = some (l.drop (n + 1))) := by
 induction l with
 | nil => exact .inl ⟨rfl, rfl, rfl⟩
 | cons x l ih =>
  by_cases hx : x = 59
  ·subst hx
   refine .inr ⟨0, ?_, rfl, rfl⟩; simp [Lib.index, List.isPrefixOf]
  ·have hp : ([59] : List UInt8).isPrefixOf (x :: l) = false := by simp [List.isPrefixOf, Ne.symm hx]
   rcases ih with ⟨h1, h2, h3⟩ | ⟨n, h1, h2, h3⟩
   ·left
    simp [behind, upTo, Lib.index, hx, hp, h1, h2, h3]
   ·right
    refine ⟨n + 1, ?_, ?_, ?_⟩
    ·rw [Lib.index, if_neg (by simp [hp]), h1]
     have : ((n : Int) == -1) = false := beq_eq_false_iff_ne.2 (by omega); simp [this]
    ·simp [upTo, hx, h2]
    ·simp [behind, hx, h3]
theorem cut59 (l : List UInt8) : Lib.cut l [59] = (upTo l, (behind l).getD [], (behind l).isSome) := by
 rcases index59 l with ⟨h1, h2, h3⟩ | ⟨n, h1, h2, h3⟩
 ·simp [Lib.cut, h1, h2, h3]
 ·rw [Lib.cut, h1, if_pos (by omega), h2, h3]
  simp
end Go.Proofs.YtajplppeijmfpaaDoor.Ty

namespace Go.Proofs.YtajplppeijmfpaaDoor.Ty
open Go Go.RowKit Go.Proofs.YtajplppeijmfpaaDoor.Nm
set_option linter.unusedVariables false
set_option linter.unusedSimpArgs false
set_option maxHeartbeats 1000000
structure Cur (w : World) (b : Nat) (l : List UInt8) (wide : Bool) : Prop where
 c0 : w.cell? ⟨b, 0, none⟩ = some (.string (bs l))
 c1 : w.cell? ⟨b, 1, none⟩ = some (.bool wide)
 f0 : w.frozen? ⟨b, 0, none⟩ = false
 f1 : w.frozen? ⟨b, 1, none⟩ = false
def took (l : List UInt8) (c : UInt8) : Bool := l.head? == some c
theorem take_empty (b : Nat) (wide : Bool) (c : UInt8) (w : World) (h : Cur w b [] wide) : Calls Tryd.prog 59 #[.pointer (some ⟨b, 0, none⟩), .int .u8 (c.toNat : Int)] w fun e w' => e = .returned (.bool false) ∧ w' = w := by
 have h0 := h.c0; have hmk : bs [] = ⟨#[]⟩ := rfl; rw [hmk] at h0; go_enter Tryd.func59, Tryd.ntmps59; go_wp2; go_ret
 exact ⟨rfl, rfl⟩
theorem take_cons (b : Nat) (x : UInt8) (l : List UInt8) (hl : l.length < 4294967281) (wide : Bool) (c : UInt8) (w : World) (h : Cur w b (x :: l) wide) : Calls Tryd.prog 59 #[.pointer (some ⟨b, 0, none⟩), .int .u8 (c.toNat : Int)] w fun e w' => e = .returned (.bool (decide (x = c))) ∧ w' = if x = c then w.setCell ⟨b, 0, none⟩ (.string (bs l)) else w := by
 have h0 := h.c0; have h1 := h.f0
 have hne : ¬ (bs (x :: l)).toList = [] := by
  rw [ByteArray.toList_eq]; simp [bs]
 have hie : (bs (x :: l)).toList.isEmpty = false := by
  rw [ByteArray.toList_eq]; simp [bs]
 have hz := mk_size (x :: l)
 have hx : bt (bs (x :: l)) 0 = (x.toNat : Int) := by simp [bt, bs]
 have ht : ∀ h : 0 < (bs (x :: l)).size, (((bs (x :: l))[0]'h).toNat : Int) = x.toNat := fun h => (bt_at _ _ h).trans hx
 have hs : (bs (x :: l)).extract 1 (bs (x :: l)).size = bs l := by
  apply bytes_inj
  rw [ex_data]; rw [mk_toList, mk_toList, mk_size]; simp
 simp only [List.length_cons] at hz
 have hr : 0 ≤ (x.toNat : Int) ∧ (x.toNat : Int) ≤ 255 := by have := x.toNat_lt; omega
 have hcr : 0 ≤ (c.toNat : Int) ∧ (c.toNat : Int) ≤ 255 := by have := c.toNat_lt; omega
 clear hx h; generalize bs (x :: l) = s at *; go_enter Tryd.func59, Tryd.ntmps59
 have hsz : s.extract 1 (l.length + 1) = bs l := by rw [← hz, hs]
 by_cases hc : x = c
 ·subst hc
  go_wp2
  all_goals go_ret
  all_goals simp_all
 ·have hc2 : ¬ (x.toNat : Int) = (c.toNat : Int) := fun h => hc (UInt8.toNat_inj.1 (by omega))
  go_wp2
  all_goals go_ret
  all_goals simp_all
theorem gb_set (w : World) (b k : Nat) (v : Value) : w.grownBy (w.setCell ⟨b, k, none⟩ v) (some b) :=
 ⟨rfl, rfl, rfl, (KeepsWalks.setCell w _ v).size, fun j _ hk => Below.heap_setCell _ _ _ j (fun e => hk (by rw [e]))⟩
theorem Cur.lt {w : World} {b : Nat} {l : List UInt8} {wd : Bool} (h : Cur w b l wd) : b < w.heap.size := World.block_lt_of_cell? w _ h.c0
theorem Cur.kept {w w' : World} {b : Nat} {l : List UInt8} {wd : Bool} (h : Cur w b l wd) {row : Option Nat} (hg : w.grownBy w' row) (hne : some b ≠ row) : Cur w' b l wd :=
 ⟨(hg.cell_far _ h.lt hne).trans h.c0, (hg.cell_far _ h.lt hne).trans h.c1, (hg.frozen_far _ h.lt hne).trans h.f0, (hg.frozen_far _ h.lt hne).trans h.f1⟩
theorem Cur.set0 {w : World} {b : Nat} {l : List UInt8} {wd : Bool} (h : Cur w b l wd) (q : List UInt8) : Cur (w.setCell ⟨b, 0, none⟩ (.string (bs q))) b q wd := by
 have := h.c0; have := h.c1; have := h.f0; have := h.f1
 constructor <;> simp_all [World.cell?_setCell_same, World.cell?_setCell_other, World.frozen?_setCell]
theorem Cur.set1 {w : World} {b : Nat} {l : List UInt8} {wd : Bool} (h : Cur w b l wd) (q : Bool) : Cur (w.setCell ⟨b, 1, none⟩ (.bool q)) b l q := by
 have := h.c0; have := h.c1; have := h.f0; have := h.f1
 constructor <;> simp_all [World.cell?_setCell_same, World.cell?_setCell_other, World.frozen?_setCell]
def left (l : List UInt8) (c : UInt8) : List UInt8 := if took l c = true then l.tail else l
theorem take_any (b : Nat) (l : List UInt8) (hl : l.length < 4294967281) (wide : Bool) (c : UInt8) (w : World) (h : Cur w b l wide) : Calls Tryd.prog 59 #[.pointer (some ⟨b, 0, none⟩), .int .u8 (c.toNat : Int)] w fun e w' => e = .returned (.bool (took l c)) ∧ Cur w' b (left l c) wide ∧ w.grownBy w' (some b) := by
 cases l with
 | nil =>
  refine (take_empty b wide c w h).mono ?_; rintro e w1 ⟨rfl, rfl⟩
  exact ⟨rfl, h, World.grownBy.refl _ _⟩
 | cons x l =>
  refine (take_cons b x l (by simp at hl; omega) wide c w h).mono ?_; rintro e w1 ⟨rfl, rfl⟩
  by_cases hx : x = c
  ·subst hx
   have : took (x :: l) x = true := by simp [took]
   rw [left, this]; simp only [decide_true, if_true, List.tail]
   exact ⟨trivial, h.set0 _, gb_set _ _ _ _⟩
  ·have : took (x :: l) c = false := by simp [took, hx]
   rw [left, this]; simp only [hx, decide_false, if_false, Bool.false_eq_true]
   exact ⟨trivial, h, World.grownBy.refl _ _⟩
end Go.Proofs.YtajplppeijmfpaaDoor.Ty

namespace Go.Proofs.YtajplppeijmfpaaDoor.Ty
open Go Go.RowKit Go.Proofs.YtajplppeijmfpaaDoor.Nm
set_option linter.unusedVariables false
set_option linter.unusedSimpArgs false
set_option maxHeartbeats 1000000
structure Two (w : World) (B : Nat) (k : Int) (nm : ByteArray) : Prop where
 c0 : w.cell? ⟨B, 0, none⟩ = some (.int .i64 k)
 c1 : w.cell? ⟨B, 1, none⟩ = some (.string nm)
 f0 : w.frozen? ⟨B, 0, none⟩ = false
 f1 : w.frozen? ⟨B, 1, none⟩ = false
theorem Two.lt {w : World} {b : Nat} {l : Int} {wd : ByteArray} (h : Two w b l wd) : b < w.heap.size := World.block_lt_of_cell? w _ h.c0
theorem Two.kept {w w' : World} {b : Nat} {l : Int} {wd : ByteArray} (h : Two w b l wd) {row : Option Nat} (hg : w.grownBy w' row) (hne : some b ≠ row) : Two w' b l wd :=
 ⟨(hg.cell_far _ h.lt hne).trans h.c0, (hg.cell_far _ h.lt hne).trans h.c1, (hg.frozen_far _ h.lt hne).trans h.f0, (hg.frozen_far _ h.lt hne).trans h.f1⟩
theorem Two.drew {w : World} {b : Nat} {l : Int} {wd : ByteArray} (h : Two w b l wd) : Two w.drew b l wd := ⟨h.c0, h.c1, h.f0, h.f1⟩
theorem Cur.drew {w : World} {b : Nat} {l : List UInt8} {wd : Bool} (h : Cur w b l wd) : Cur w.drew b l wd := ⟨h.c0, h.c1, h.f0, h.f1⟩
theorem gb_drew {w w1 : World} {row : Option Nat} (h : w.grownBy w1 row) : w.grownBy w1.drew row := ⟨h.os, h.tape, h.output, h.size, h.block⟩
theorem Two.set0 {w : World} {b : Nat} {l : Int} {wd : ByteArray} (h : Two w b l wd) (q : Int) : Two (w.setCell ⟨b, 0, none⟩ (.int .i64 q)) b q wd := by
 have := h.c0; have := h.c1; have := h.f0; have := h.f1
 constructor <;> simp_all [World.cell?_setCell_same, World.cell?_setCell_other, World.frozen?_setCell]
theorem Two.set1 {w : World} {b : Nat} {l : Int} {wd : ByteArray} (h : Two w b l wd) (q : ByteArray) : Two (w.setCell ⟨b, 1, none⟩ (.string q)) b l q := by
 have := h.c0; have := h.c1; have := h.f0; have := h.f1
 constructor <;> simp_all [World.cell?_setCell_same, World.cell?_setCell_other, World.frozen?_setCell]
theorem Two.new (w : World) (k : Int) (nm : ByteArray) (t : TypeId) : Two (w.alloc (.cells #[.int .i64 k, .string nm] t)) w.heap.size k nm := by
 constructor
 ·rw [cell_new]; rfl
 ·rw [cell_new]; rfl
 ·unfold World.frozen?; rw [heap_alloc_new]; rfl
 ·unfold World.frozen?; rw [heap_alloc_new]; rfl
theorem gb_new {w w1 : World} {b : Nat} (h : w.grownBy w1 (some b)) (j : Nat) (v : Value) : w.grownBy (w1.setCell ⟨w.heap.size, j, none⟩ v) (some b) :=
 h.andThen (gb_set _ _ _ _) (fun j hj => .inl (by cases hj; exact Nat.le_refl _))
theorem gb_below {w w1 : World} (h : Below w.heap.size w w1) : w.grownBy w1 none := ⟨h.os, h.tape, h.output, h.size, fun k hk _ => h.block k hk⟩
theorem gb_none {w w1 : World} (h : w.grownBy w1 none) : Below w.heap.size w w1 := ⟨h.os, h.tape, h.output, h.size, fun k hk => h.block k hk (by simp)⟩
theorem gb_weak {w w1 : World} (h : w.grownBy w1 none) (row : Option Nat) : w.grownBy w1 row := ⟨h.os, h.tape, h.output, h.size, fun k hk _ => h.block k hk (by simp)⟩
theorem ml_kept {w w1 : World} (_ : ML w) {b : Nat} {l : List UInt8} {wd : Bool} (_ : Cur w b l wd) (_ : w.grownBy w1 (some b)) : ML w1 := trivial
theorem cut_any (r : List UInt8) (hr : r.length < 4294967281) (w : World) (hm : ML w) : Calls Tryd.prog 74 #[.string (bs r), .string ⟨#[59]⟩] w fun e w' => e = .returned (.tuple #[.string (bs (upTo r)), .string (bs ((behind r).getD [])), .bool (behind r).isSome]) ∧ w.grownBy w' none := by
 refine (Lib1.cut1 Tryd.lays145 (bs r) 59 w (by rw [mk_size]; exact hr)).mono ?_; rintro e w1 ⟨rfl, n, rfl⟩; rw [mk_toList, cut59]
 exact ⟨rfl, ⟨rfl, rfl, rfl, Nat.le_refl _, fun _ _ _ => rfl⟩⟩
theorem one_any (b : Nat) (l : List UInt8) (hl : l.length < 4294967281) (wide : Bool) (w : World) (h : Cur w b l wide) (hm : ML w) : Calls Tryd.prog 60 #[.pointer (some ⟨b, 0, none⟩)] w fun e w' =>
  ∃ d nm, e = .returned (.tuple #[.agg #[.int .i64 d, .string nm], .bool (rd l).rest.isSome]) ∧ w.grownBy w' (some b) ∧ (∀ r, (rd l).rest = some r → d = (rd l).dims ∧ nm = bs (rd l).name ∧ Cur w' b r (wide || decide (255 < (rd l).dims))) := by
 have hb := h.lt; go_enter Tryd.func60, Tryd.ntmps60; go_wp2
 go_loopg [] l.length (fun g wr => ∃ (k : Nat) (q : List UInt8), g = q.length ∧ q.length + k = l.length ∧ opens q + k = opens l ∧ past q = past l ∧ Cur wr b q wide ∧ Two wr w.heap.size k ⟨#[]⟩ ∧ w.grownBy wr (some b))
 case atStart => exact ⟨0, l, rfl, by omega, by omega, rfl, h.kept (World.grownBy_alloc _ _ none) (by simp), Two.new _ _ _ _, World.grownBy_alloc _ _ _⟩
 case round =>
  obtain ⟨k, q, hg, hlen, hop, hpa, hC, hT, hgr⟩ := hrel
  have hq : q.length < 4294967281 := by omega
  have hopl := opens_le l
  have hne : some w.heap.size ≠ some b := by intro e; injection e with e; omega
  replace hne := Lib.hid hne; replace hop := Lib.hid hop; replace hpa := Lib.hid hpa; go_wp2_with fail; refine (take_any b q hq wide 91 _ hC).mono ?_; rintro e w1 ⟨rfl, hC1, hg1⟩; replace hT := hT.kept hg1 hne.out; replace hgr := hgr.trans hg1; clear hC hg1; replace hC1 := Lib.hid hC1; replace hgr := Lib.hid hgr
  cases ht : took q 91
  ·have hnq : ∀ r, q ≠ 91 :: r := by rintro r rfl; simp [took] at ht
   have hself := past_self q hnq
   have hpq : past l = q := by rw [← hpa.out, hself.1]
   have hk : k = opens l := by have := hop.out; rw [hself.2] at this; omega
   have hC2 : Cur w1 b q wide := by have := hC1.out; rwa [left, ht] at this
   have h1 := hT.c0; have h2 := hC2.c1; have h3 := hC2.f1; clear hC1 hop hpa hself; replace hT := Lib.hid hT; replace hC2 := Lib.hid hC2; replace hpq := Lib.hid hpq; replace hk := Lib.hid hk; replace hnq := Lib.hid hnq; go_upto_region 3 with fail
   go_cut [3] (fun v3 wc => v3 = .bool false ∧ Cur wc b q (wide || decide (255 < k)) ∧ Two wc w.heap.size k ⟨#[]⟩ ∧ w.grownBy wc (some b))
   case first =>
    go_wp2
    all_goals
     go_meet
     case rel =>
      refine ⟨rfl, ?_, hT.out.kept (gb_set _ _ _ _) hne.out, hgr.out.trans (gb_set _ _ _ _)⟩; have := hC2.out.set1 (wide || decide (255 < k)); have hdd : decide (255 < (k : Int)) = decide (255 < k) := decide_eq_decide.2 (by omega)
      simp_all
   case rest =>
    obtain ⟨rfl, hC3, hT3, hg3⟩ := hcut; clear hT hC2 hgr h1 h2 h3; generalize hwd : (wide || decide (255 < k)) = wd at *; replace hwd := Lib.hid hwd; go_wp2_with fail; refine (take_any b q hq _ 73 _ hC3).mono ?_; rintro e w4 ⟨rfl, hC4, hg4⟩; replace hT3 := hT3.kept hg4 hne.out; replace hg3 := hg3.trans hg4; clear hC3 hg4; replace hC4 := Lib.hid hC4; replace hg3 := Lib.hid hg3
    cases t73 : took q 73
    ·have hC5 : Cur w4 b q wd := by have := hC4.out; rwa [left, t73] at this
     clear hC4; go_wp2_with fail; refine (take_any b q hq _ 76 _ hC5).mono ?_; rintro e w5 ⟨rfl, hC6, hg6⟩; replace hT3 := hT3.kept hg6 hne.out; replace hg3 := hg3.out.trans hg6; clear hC5 hg6; replace hC6 := Lib.hid hC6; replace hg3 := Lib.hid hg3
     cases t76 : took q 76
     ·have hrd : rd l = ⟨k, [], none⟩ := by
       rw [rd, hpq.out]
       cases q with
       | nil => simp [hk.out]
       | cons x r =>
        have n1 : x ≠ 73 := by rintro rfl; simp [took] at t73
        have n2 : x ≠ 76 := by rintro rfl; simp [took] at t76
        simp [hk.out, n1, n2]
      have h1 := hT3.c0; have h2 := hT3.c1; have h3 := hT3.f0; have h4 := hT3.f1; replace hT3 := Lib.hid hT3; replace hrd := Lib.hid hrd; clear hpq hk; go_wp2; have T5 := (hT3.out.set0 k).set1 ⟨#[]⟩; refine bodyPost_ret (v := .tuple #[.agg #[.int .i64 k, .string ⟨#[]⟩], .bool false]) (by simp [results, Tryd.results60, go_sem, T5.c0, T5.c1]) rfl ⟨k, ⟨#[]⟩, ?_, gb_new (gb_new hg3.out _ _) _ _, ?_⟩
      ·rw [hrd.out]; rfl
      ·intro r1 hr1
       rw [hrd.out] at hr1
       cases hr1
     ·obtain ⟨r, rfl⟩ : ∃ r, q = 76 :: r := by
       cases q with
       | nil => simp [took] at t76
       | cons x r => simp [took] at t76; exact ⟨r, by rw [t76]⟩
      have hC7 : Cur w5 b r wd := by have := hC6.out; rwa [left, t76] at this
      have hM5 : ML w5 := ml_kept hm h hg3.out
      have hrd : rd l = ⟨k, upTo r, if validB (bs (upTo r)) then behind r else none⟩ := by rw [rd, hpq.out]; simp [hk.out]
      simp only [List.length_cons] at hq hlen; clear hC6 hpq hk; have p1 := hC7.c0; go_wp2_with fail; refine (cut_any r (by omega) _ hM5).mono ?_; rintro e w6 ⟨rfl, hg7⟩; replace hT3 := hT3.kept hg7 (by simp); replace hC7 := hC7.kept hg7 (by simp); replace hg3 := Lib.hid (hg3.out.trans (gb_weak hg7 _)); have hM6 := hM5.below (gb_none hg7); clear hM5 hg7 p1; have h1 := hT3.c0; have h2 := hT3.c1; have h3 := hT3.f0; have h4 := hT3.f1; have h5 := hC7.c0; have h6 := hC7.f0; replace hT3 := Lib.hid hT3; replace hC7 := Lib.hid hC7; replace hM6 := Lib.hid hM6; replace hrd := Lib.hid hrd; have hne2 : w.heap.size ≠ b := fun e => hne.out (by rw [e]); go_upto_region 9 with fail; have T9 := (hT3.out.set1 (bs (upTo r))).kept (gb_set _ b 0 (.string (bs ((behind r).getD [])))) hne.out; have C9 := (hC7.out.kept (gb_set _ w.heap.size 1 (.string (bs (upTo r)))) (Ne.symm hne.out)).set0 ((behind r).getD []); have G9 := (gb_new hg3.out 1 (.string (bs (upTo r)))).trans (gb_set _ b 0 (.string (bs ((behind r).getD [])))); clear h1 h2 h3 h4 h5 h6 hT3 hC7 hg3 hM6; generalize (w6.setCell ⟨w.heap.size, 1, none⟩ (.string (bs (upTo r)))).setCell ⟨b, 0, none⟩ (.string (bs ((behind r).getD []))) = W9 at *; have M9 : ML W9 := ml_kept hm h G9; have h1 := T9.c0; have h2 := T9.c1; have h3 := T9.f0; have h4 := T9.f1; have V := Lib.hid (valid_any (bs (upTo r)) W9.drew M9); replace T9 := Lib.hid T9; replace C9 := Lib.hid C9; replace G9 := Lib.hid G9; clear M9
      cases hbr : behind r with
      | none =>
       rw [hbr] at hrd
       have hrd2 : rd l = ⟨k, upTo r, none⟩ := by rw [hrd.out]; simp
       replace hrd2 := Lib.hid hrd2; clear hrd V; replace hbr := Lib.hid hbr; simp only [Option.isSome_none, Option.getD_none]; go_region; go_wp2; have T5 := ((T9.out.set0 k).set1 (bs (upTo r))).drew; refine bodyPost_ret (v := .tuple #[.agg #[.int .i64 k, .string (bs (upTo r))], .bool false]) (by simp [results, Tryd.results60, go_sem, T5.c0, T5.c1]) rfl ⟨k, bs (upTo r), ?_, gb_drew (gb_new (gb_new G9.out _ _) _ _), ?_⟩
       ·rw [hrd2.out]; rfl
       ·intro r1 hr1
        rw [hrd2.out] at hr1
        cases hr1
      | some r2 =>
       replace hbr := Lib.hid hbr
       go_region_with (go_at_call 43; refine V.out.mono ?_; rintro e w10 ⟨rfl, hb10⟩; have T10 := T9.out.drew.kept (gb_below hb10) (by simp); have h1' := T10.c0; have h2' := T10.c1; have h3' := T10.f0; have h4' := T10.f1; replace T10 := Lib.hid T10; replace hb10 := Lib.hid hb10)
       all_goals go_wp2
       all_goals
        have T5 := (T10.out.set0 k).set1 (bs (upTo r)); refine bodyPost_ret (v := .tuple #[.agg #[.int .i64 k, .string (bs (upTo r))], .bool (validB (bs (upTo r)))]) (by simp [results, Tryd.results60, go_sem, T5.c0, T5.c1]) rfl ⟨k, bs (upTo r), ?_, gb_new (gb_new ((gb_drew G9.out).trans (gb_weak (gb_below hb10.out) _)) _ _) _ _, ?_⟩
        ·rw [hrd.out, hbr.out]; cases validB (bs (upTo r)) <;> rfl
        ·intro r1 hr1
         have hC := C9.out; rw [hbr.out] at hC; rw [hrd.out] at hr1 ⊢; simp only at hr1
         split at hr1
         ·rw [hbr.out] at hr1
          cases hr1
          refine ⟨rfl, rfl, ?_⟩; rw [hwd.out]
          exact ((hC.drew.kept (gb_below hb10.out) (by simp)).kept (gb_set _ _ _ _) (Ne.symm hne.out)).kept (gb_set _ _ _ _) (Ne.symm hne.out)
         ·cases hr1
    ·obtain ⟨r, rfl⟩ : ∃ r, q = 73 :: r := by
      cases q with
      | nil => simp [took] at t73
      | cons x r => simp [took] at t73; exact ⟨r, by rw [t73]⟩
     have h1 := hT3.c0; have h2 := hT3.c1; have h3 := hT3.f0; have h4 := hT3.f1; replace hT3 := Lib.hid hT3
     have hrd : rd l = ⟨k, [], some r⟩ := by rw [rd, hpq.out]; simp [hk.out]
     replace hrd := Lib.hid hrd; clear hpq hk; go_wp2; have T5 := (hT3.out.set0 k).set1 ⟨#[]⟩; refine bodyPost_ret (v := .tuple #[.agg #[.int .i64 k, .string ⟨#[]⟩], .bool true]) (by simp [results, Tryd.results60, go_sem, T5.c0, T5.c1]) rfl ⟨k, ⟨#[]⟩, ?_, gb_new (gb_new hg3.out _ _) _ _, ?_⟩
     ·rw [hrd.out]; rfl
     ·intro r1 hr1
      rw [hrd.out] at hr1 ⊢
      cases hr1
      refine ⟨rfl, rfl, ?_⟩; have h5 := hC4.out; rw [left, t73] at h5; rw [hwd.out]
      exact (h5.kept (gb_set _ _ _ _) (Ne.symm hne.out)).kept (gb_set _ _ _ _) (Ne.symm hne.out)
  ·obtain ⟨r, rfl⟩ : ∃ r, q = 91 :: r := by
    cases q with
    | nil => simp [took] at ht
    | cons x r => simp [took] at ht; exact ⟨r, by rw [ht]⟩
   have h1 := hT.c0; have h2 := hT.f0; simp only [List.length_cons] at hlen hq; replace hT := Lib.hid hT; go_wp2
   go_roundg r.length
   case rel => exact ⟨k + 1, r, rfl, by omega, by have := hop.out; simp [opens] at this; omega, by have := hpa.out; simpa [past] using this, (by have := hC1.out; rw [left, ht] at this; exact this.kept (gb_set _ _ _ _) (Ne.symm hne.out)), by have := hT.out.set0 (k + 1); simpa using this, hgr.out.andThen (gb_set _ _ _ _) (fun j hj => .inl (by cases hj; exact Nat.le_refl _))⟩
   case measure => simp at hg; omega
end Go.Proofs.YtajplppeijmfpaaDoor.Ty

namespace Go.Proofs.YtajplppeijmfpaaDoor.Ty
open Go Go.RowKit Go.Proofs.YtajplppeijmfpaaDoor.Nm
set_option linter.unusedVariables false
set_option linter.unusedSimpArgs false
set_option maxHeartbeats 1000000
def parseT (l : List UInt8) : Int × List UInt8 × Int :=
 if 2000 < l.length then (0, [], 5) else
  match (rd l).rest with
  | none => (0, [], 4)
  | some r => if r ≠ [] then (0, [], 4) else if 255 < (rd l).dims then (0, [], 5) else ((rd l).dims, (rd l).name, 0)
def tyV (d : Int) (nm : List UInt8) : Value := .agg #[.int .i64 d, .string (bs nm)]
theorem bs_nil : bs [] = ⟨#[]⟩ := rfl
theorem Cur.new (w : World) (l : List UInt8) (wd : Bool) (t : TypeId) : Cur (w.alloc (.cells #[.string (bs l), .bool wd] t)) w.heap.size l wd := by
 constructor
 ·rw [cell_new]; rfl
 ·rw [cell_new]; rfl
 ·unfold World.frozen?; rw [heap_alloc_new]; rfl
 ·unfold World.frozen?; rw [heap_alloc_new]; rfl
theorem ml_alloc {w : World} (h : ML w) (o : Obj) : ML (w.alloc o) := h.below (gb_none (World.grownBy_alloc w o none))
theorem parse_any (l : List UInt8) (w : World) (hm : ML w) : Calls Tryd.prog 30 #[.string (bs l)] w fun e w' =>
  e = .returned (.tuple #[tyV (parseT l).1 (parseT l).2.1, .int .i64 (parseT l).2.2]) ∧ Below w.heap.size w w' := by
 have hz := mk_size l
 have hzl : ((bs l).size : Int) = l.length := by rw [hz]
 clear hz; have T0 := Two.new w 0 ⟨#[]⟩ 41; have HM := Lib.hid hm
 by_cases hbig : 2000 < l.length
 ·have hp : parseT l = (0, [], 5) := by simp [parseT, hbig]
  rw [hp]; replace hp := Lib.hid hp; replace T0 := Lib.hid T0; go_enter Tryd.func30, Tryd.ntmps30; go_wp2; refine bodyPost_ret (v := .tuple #[tyV 0 [], .int .i64 5]) (by simp [results, Tryd.results30, go_sem, tyV, bs_nil]) rfl ⟨rfl, ?_⟩; have B0 := Below.refl w.heap.size w
  repeat' (first | assumption | apply Below.setCell | apply Below.alloc | apply Below.drew)
  all_goals (first | omega | (simp; done) | (simp; omega))
 ·have hp : parseT l = match (rd l).rest with
   | none => (0, [], 4)
   | some r => if r ≠ [] then (0, [], 4) else if 255 < (rd l).dims then (0, [], 5) else ((rd l).dims, (rd l).name, 0) := by rw [parseT, if_neg hbig]
  replace hp := Lib.hid hp
  have hsm : (l.length : Int) ≤ 2000 := by omega
  have C0 := Cur.new (w.alloc (.cells #[.int .i64 0, .string ⟨#[]⟩] 41)) l false 82; have M0 := ml_alloc (ml_alloc hm (.cells #[.int .i64 0, .string ⟨#[]⟩] 41)) (.cells #[.string (bs l), .bool false] 82); have T1 := T0.kept (World.grownBy_alloc _ (.cells #[.string (bs l), .bool false] 82) none) (by simp)
  have hz2 : (w.alloc (.cells #[.int .i64 0, .string ⟨#[]⟩] 41)).heap.size = w.heap.size + 1 := by simp
  rw [hz2] at C0; have O := Lib.hid (one_any (w.heap.size + 1) l (by omega) false _ C0 M0); have B0 : Below w.heap.size w ((w.alloc (.cells #[.int .i64 0, .string ⟨#[]⟩] 41)).alloc (.cells #[.string (bs l), .bool false] 82)) := ((Below.refl _ _).alloc (Nat.le_refl _) _).alloc (by simp) _; replace T1 := Lib.hid T1; replace B0 := Lib.hid B0; clear T0 C0 M0 hm hz2; go_enter Tryd.func30, Tryd.ntmps30; go_wp2_with fail; refine O.out.mono ?_; rintro e w3 ⟨d, nm, rfl, hg, hsome⟩; have T3 := T1.out.kept hg (by simp); have B3 := B0.out.grown hg (by simp; omega) (by simp); have hsz := B3.size; have hlt := T3.lt; clear T1 B0 O hg; have f0 := T3.f0; have h1 := T3.c0; have h2 := T3.c1; have f1 := T3.f1; replace T3 := Lib.hid T3; replace hsome := Lib.hid hsome
  cases hr : (rd l).rest with
  | none =>
   rw [hr] at hp; have hp2 : parseT l = (0, [], 4) := hp.out; replace hp2 := Lib.hid hp2; clear hsome hp; go_wp2; have T5 := ((T3.out.set0 0).set1 ⟨#[]⟩).kept (World.grownBy_alloc _ (.cells #[.int .i64 d, .string nm] 41) none) (by simp); refine bodyPost_ret (v := .tuple #[tyV 0 [], .int .i64 4]) (by simp [results, Tryd.results30, go_sem, tyV, bs_nil, T5.c0, T5.c1]) rfl ⟨by rw [hp2.out], ?_⟩
   repeat' (first | assumption | apply Below.setCell | apply Below.alloc | apply Below.drew)
   all_goals (first | omega | (simp; done) | (simp; omega))
  | some r =>
   obtain ⟨rfl, rfl, hC⟩ := hsome.out r hr; rw [hr] at hp; have q0 := hC.c0; have q1 := hC.c1; have hlt2 := hC.lt
   have hdr : ((rd l).dims : Int) ≤ 4294967281 := by have := rd_len l r hr; omega
   clear hsome; replace hC := Lib.hid hC; generalize (rd l).dims = k at *; generalize (rd l).name = nm at *; rw [Bool.false_or] at q1
   cases r with
   | nil =>
    rw [bs_nil] at q0
    by_cases hk : 255 < k
    ·have hp2 : parseT l = (0, [], 5) := by rw [hp.out]; simp [hk]
     replace hp2 := Lib.hid hp2; simp only [hk, decide_true] at q1; clear hp; go_wp2; have T5 := ((T3.out.set0 0).set1 ⟨#[]⟩).kept (World.grownBy_alloc _ (.cells #[.int .i64 k, .string (bs nm)] 41) none) (by simp); refine bodyPost_ret (v := .tuple #[tyV 0 [], .int .i64 5]) (by simp [results, Tryd.results30, go_sem, tyV, bs_nil, T5.c0, T5.c1]) rfl ⟨by rw [hp2.out], ?_⟩
     repeat' (first | assumption | apply Below.setCell | apply Below.alloc | apply Below.drew)
     all_goals (first | omega | (simp; done) | (simp; omega))
    ·have hp2 : parseT l = ((k : Int), nm, 0) := by rw [hp.out]; simp [hk]
     replace hp2 := Lib.hid hp2; simp only [hk, decide_false] at q1; clear hp; go_wp2; have T5 := ((T3.out.set0 k).set1 (bs nm)).kept (World.grownBy_alloc _ (.cells #[.int .i64 k, .string (bs nm)] 41) none) (by simp); refine bodyPost_ret (v := .tuple #[tyV k nm, .int .i64 0]) (by simp [results, Tryd.results30, go_sem, tyV, bs_nil, T5.c0, T5.c1]) rfl ⟨by rw [hp2.out], ?_⟩
     repeat' (first | assumption | apply Below.setCell | apply Below.alloc | apply Below.drew)
     all_goals (first | omega | (simp; done) | (simp; omega))
   | cons x r =>
    have hp2 : parseT l = (0, [], 4) := by rw [hp.out]; simp
    replace hp2 := Lib.hid hp2
    have hne : ¬ (bs (x :: r)).toList = [] := by
     rw [ByteArray.toList_eq]; simp [bs]
    have hie : (bs (x :: r)).toList.isEmpty = false := by
     rw [ByteArray.toList_eq]; simp [bs]
    generalize bs (x :: r) = sr at *; clear hp; go_wp2; have T5 := ((T3.out.set0 0).set1 ⟨#[]⟩).kept (World.grownBy_alloc _ (.cells #[.int .i64 k, .string (bs nm)] 41) none) (by simp); refine bodyPost_ret (v := .tuple #[tyV 0 [], .int .i64 4]) (by simp [results, Tryd.results30, go_sem, tyV, bs_nil, T5.c0, T5.c1]) rfl ⟨by rw [hp2.out], ?_⟩
    repeat' (first | assumption | apply Below.setCell | apply Below.alloc | apply Below.drew)
    all_goals (first | omega | (simp; done) | (simp; omega))
end Go.Proofs.YtajplppeijmfpaaDoor.Ty

namespace Go.Proofs.YtajplppeijmfpaaDoor.Ty
open Go Go.RowKit Go.Proofs.YtajplppeijmfpaaDoor.Nm
set_option linter.unusedVariables false
set_option linter.unusedSimpArgs false
set_option maxHeartbeats 1000000
set_option maxRecDepth 10000
def brk (l : List UInt8) : Bool := took l 91
def parseR (l : List UInt8) : Int × List UInt8 × Int :=
 if 2000 < l.length then (0, [], 5) else if brk l then parseT l else if validB (bs l) then (0, l, 0) else (0, [], 4)
end Go.Proofs.YtajplppeijmfpaaDoor.Ty

namespace Go.Proofs.YtajplppeijmfpaaDoor.Ty
open Go Go.RowKit Go.Proofs.YtajplppeijmfpaaDoor.Nm
set_option linter.unusedVariables false
set_option linter.unusedSimpArgs false
def rdArgs : Nat → List UInt8 → Option (List (Nat × List UInt8) × List UInt8)
 | 0, _ => none
 | f + 1, l =>
  if took l 41 then some ([], l.tail) else
   match (rd l).rest with
   | none => none
   | some r => (rdArgs f r).map fun p => (((rd l).dims, (rd l).name) :: p.1, p.2)
def prep (ts : List (Nat × List UInt8)) (o : Option (List (Nat × List UInt8) × List UInt8)) : Option (List (Nat × List UInt8) × List UInt8) := o.map fun p => (ts ++ p.1, p.2)
theorem prep_nil (o : Option (List (Nat × List UInt8) × List UInt8)) : prep [] o = o := by cases o <;> rfl
theorem rdArgs_close (f : Nat) (l : List UInt8) (ts) (h : took l 41 = true) : prep ts (rdArgs (f + 1) l) = some (ts, l.tail) := by
 rw [rdArgs, if_pos h]; simp [prep]
theorem rdArgs_fail (f : Nat) (l : List UInt8) (ts) (h : took l 41 = false) (hr : (rd l).rest = none) : prep ts (rdArgs (f + 1) l) = none := by
 rw [rdArgs, if_neg (by simp [h]), hr]; rfl
theorem rdArgs_step (f : Nat) (l r : List UInt8) (ts) (h : took l 41 = false) (hr : (rd l).rest = some r) : prep ts (rdArgs (f + 1) l) = prep (ts ++ [((rd l).dims, (rd l).name)]) (rdArgs f r) := by
 rw [rdArgs, if_neg (by simp [h]), hr]
 show prep ts ((rdArgs f r).map _) = _
 cases rdArgs f r <;> simp [prep]
def wideL (ts : List (Nat × List UInt8)) : Bool := ts.any fun a => decide (255 < a.1)
theorem wideL_snoc (ts : List (Nat × List UInt8)) (k : Nat) (nm : List UInt8) : wideL (ts ++ [(k, nm)]) = (wideL ts || decide (255 < k)) := by simp [wideL]
def tyCells (ts : List (Nat × List UInt8)) : List Value := ts.flatMap fun a => [.int .i64 a.1, .string (bs a.2)]
theorem tyCells_snoc (ts : List (Nat × List UInt8)) (k : Nat) (nm : List UInt8) : tyCells (ts ++ [(k, nm)]) = tyCells ts ++ [.int .i64 k, .string (bs nm)] := by simp [tyCells]
structure DescR where
 args : List (Nat × List UInt8)
 void : Bool
 rdims : Int
 rname : List UInt8
def DescR.zero : DescR := ⟨[], false, 0, []⟩
def descEnd (d : DescR) (wide : Bool) (r : List UInt8) : DescR × Int :=
 if r ≠ [] then (.zero, 4) else if wide || decide (20 < d.args.length) then (.zero, 5) else (d, 0)
def descRet (ts : List (Nat × List UInt8)) (q : List UInt8) : DescR × Int :=
 if took q 86 then descEnd ⟨ts, true, 0, []⟩ (wideL ts) q.tail
 else match (rd q).rest with
  | none => (.zero, 4)
  | some r => descEnd ⟨ts, false, (rd q).dims, (rd q).name⟩ (wideL ts || decide (255 < (rd q).dims)) r
def descOf : Option (List (Nat × List UInt8) × List UInt8) → DescR × Int
 | none => (.zero, 4)
 | some p => descRet p.1 p.2
def parseD (l : List UInt8) : DescR × Int :=
 if 2000 < l.length then (.zero, 5) else if took l 40 then descOf (rdArgs (l.length + 1) l.tail) else (.zero, 4)
theorem parseD_big (l : List UInt8) (h : 2000 < l.length) : parseD l = (.zero, 5) := by rw [parseD, if_pos h]
theorem parseD_not (l : List UInt8) (h : ¬ 2000 < l.length) (ht : took l 40 = false) : parseD l = (.zero, 4) := by rw [parseD, if_neg h, if_neg (by simp [ht])]
theorem parseD_args (l : List UInt8) (h : ¬ 2000 < l.length) (ht : took l 40 = true) : parseD l = descOf (rdArgs (l.length + 1) l.tail) := by rw [parseD, if_neg h, if_pos ht]
end Go.Proofs.YtajplppeijmfpaaDoor.Ty

namespace Go.Proofs.YtajplppeijmfpaaDoor.Ty
open Go Go.RowKit Go.Proofs.YtajplppeijmfpaaDoor.Nm
set_option linter.unusedVariables false
set_option linter.unusedSimpArgs false
set_option maxHeartbeats 1000000
set_option maxRecDepth 10000
structure Four (w : World) (B : Nat) (v : Value) (void : Bool) (k : Int) (nm : ByteArray) : Prop where
 c0 : w.cell? ⟨B, 0, none⟩ = some v
 c1 : w.cell? ⟨B, 1, none⟩ = some (.bool void)
 c2 : w.cell? ⟨B, 2, none⟩ = some (.int .i64 k)
 c3 : w.cell? ⟨B, 3, none⟩ = some (.string nm)
 f0 : w.frozen? ⟨B, 0, none⟩ = false
 f1 : w.frozen? ⟨B, 1, none⟩ = false
 f2 : w.frozen? ⟨B, 2, none⟩ = false
 f3 : w.frozen? ⟨B, 3, none⟩ = false
section
variable {w w' : World} {b : Nat} {v : Value} {vo : Bool} {k : Int} {nm : ByteArray}
theorem Four.lt (h : Four w b v vo k nm) : b < w.heap.size := World.block_lt_of_cell? w _ h.c0
theorem Four.drew (h : Four w b v vo k nm) : Four w.drew b v vo k nm := ⟨h.c0, h.c1, h.c2, h.c3, h.f0, h.f1, h.f2, h.f3⟩
theorem Four.kept (h : Four w b v vo k nm) {row : Option Nat} (hg : w.grownBy w' row) (hne : some b ≠ row) : Four w' b v vo k nm :=
 ⟨(hg.cell_far _ h.lt hne).trans h.c0, (hg.cell_far _ h.lt hne).trans h.c1, (hg.cell_far _ h.lt hne).trans h.c2, (hg.cell_far _ h.lt hne).trans h.c3,
  (hg.frozen_far _ h.lt hne).trans h.f0, (hg.frozen_far _ h.lt hne).trans h.f1, (hg.frozen_far _ h.lt hne).trans h.f2, (hg.frozen_far _ h.lt hne).trans h.f3⟩
theorem Four.set0 (h : Four w b v vo k nm) (q : Value) : Four (w.setCell ⟨b, 0, none⟩ q) b q vo k nm := by
 have := h.c0; have := h.c1; have := h.c2; have := h.c3; have := h.f0; have := h.f1; have := h.f2; have := h.f3
 constructor <;> simp_all [World.cell?_setCell_same, World.cell?_setCell_other, World.frozen?_setCell]
theorem Four.set1 (h : Four w b v vo k nm) (q : Bool) : Four (w.setCell ⟨b, 1, none⟩ (.bool q)) b v q k nm := by
 have := h.c0; have := h.c1; have := h.c2; have := h.c3; have := h.f0; have := h.f1; have := h.f2; have := h.f3
 constructor <;> simp_all [World.cell?_setCell_same, World.cell?_setCell_other, World.frozen?_setCell]
theorem Four.set2 (h : Four w b v vo k nm) (q : Int) : Four (w.setCell ⟨b, 2, none⟩ (.int .i64 q)) b v vo q nm := by
 have := h.c0; have := h.c1; have := h.c2; have := h.c3; have := h.f0; have := h.f1; have := h.f2; have := h.f3
 constructor <;> simp_all [World.cell?_setCell_same, World.cell?_setCell_other, World.frozen?_setCell]
theorem Four.set3 (h : Four w b v vo k nm) (q : ByteArray) : Four (w.setCell ⟨b, 3, none⟩ (.string q)) b v vo k q := by
 have := h.c0; have := h.c1; have := h.c2; have := h.c3; have := h.f0; have := h.f1; have := h.f2; have := h.f3
 constructor <;> simp_all [World.cell?_setCell_same, World.cell?_setCell_other, World.frozen?_setCell]
theorem Four.new (w : World) (v : Value) (vo : Bool) (k : Int) (nm : ByteArray) (t : TypeId) : Four (w.alloc (.cells #[v, .bool vo, .int .i64 k, .string nm] t)) w.heap.size v vo k nm := by
 constructor
 iterate 4 (rw [cell_new]; rfl)
 all_goals (unfold World.frozen?; rw [heap_alloc_new]; rfl)
end
theorem own_mono {w : World} {base base' : Nat} {e : TypeId} {size n : Nat} {v : Value} {xs : List Value} (h : w.ownsRow base e size v n xs) (hb : base' ≤ base) : w.ownsRow base' e size v n xs :=
 ⟨h.1, h.2.imp id fun ⟨g, cap, cur, e, hg, r⟩ => ⟨g, cap, cur, e, Nat.le_trans hb hg, r⟩⟩
def descV (v : Value) (vo : Bool) (k : Int) (nm : ByteArray) : Value := .agg #[v, .bool vo, .int .i64 k, .string nm]
structure Good (w wr : World) (o : Option (List (Nat × List UInt8) × List UInt8)) (f : Nat) (q : List UInt8) (ts : List (Nat × List UInt8)) (v : Value) : Prop where
 len : q.length < f
 small : f ≤ 2001
 count : ts.length + f ≤ 2001
 rest : prep ts (rdArgs f q) = o
 cur : Cur wr (w.heap.size + 1) q (wideL ts)
 desc : Four wr (w.heap.size + 1 + 1) v false 0 ⟨#[]⟩
 own : wr.ownsRow (w.heap.size + 3) 41 2 v ts.length (tyCells ts)
theorem infoT : (Tryd.prog.info? 41).map (fun i => (i.zero, i.size, i.bytes)) = some (some (.agg #[.int .i64 0, .string ⟨#[]⟩]), 2, 24) := by kernel_rfl
theorem parsedesc_any (l : List UInt8) (w : World) (hm : ML w) : Calls Tryd.prog 28 #[.string (bs l)] w fun e w' =>
  ∃ v, e = .returned (.tuple #[descV v (parseD l).1.void (parseD l).1.rdims (bs (parseD l).1.rname), .int .i64 (parseD l).2]) ∧ w'.ownsRow w.heap.size 41 2 v (parseD l).1.args.length (tyCells (parseD l).1.args) ∧ Below w.heap.size w w' := by
 have hz := mk_size l
 have hzl : ((bs l).size : Int) = l.length := by rw [hz]
 clear hz
 by_cases hbig : 2000 < l.length
 ·have hp : parseD l = (.zero, 5) := parseD_big l hbig
  replace hp := Lib.hid hp; go_enter Tryd.func28, Tryd.ntmps28; go_wp2
  go_step3
  go_wp2; rw [Exit.noGoto_ret]; refine bodyPost_ret (v := .tuple #[descV (.slice none 0 0) false 0 ⟨#[]⟩, .int .i64 5]) (by simp [results, Tryd.results28, go_sem, descV]) rfl ⟨_, by rw [hp.out]; rfl, by rw [hp.out]; exact World.ownsRow_nil _ _ _ _, ?_⟩; have B0 := Below.refl w.heap.size w
  repeat' (first | assumption | apply Below.setCell | apply Below.alloc | apply Below.drew)
  all_goals (first | omega | (simp; done) | (simp; omega))
 ·have hpn := Lib.hid (parseD_not l hbig)
  have hpa := Lib.hid (parseD_args l hbig)
  have hsm : (l.length : Int) ≤ 2000 := by omega
  go_enter Tryd.func28, Tryd.ntmps28; go_wp2
  go_step3
  go_wp2_with fail; have R0 := Four.new w (.slice none 0 0) false 0 ⟨#[]⟩ 43; have C0 := Cur.new (w.alloc (.cells #[.slice none 0 0, .bool false, .int .i64 0, .string ⟨#[]⟩] 43)) l false 82; have D0 := Four.new ((w.alloc (.cells #[.slice none 0 0, .bool false, .int .i64 0, .string ⟨#[]⟩] 43)).alloc (.cells #[.string (bs l), .bool false] 82)) (.slice none 0 0) false 0 ⟨#[]⟩ 43
  have hz1 : (w.alloc (.cells #[.slice none 0 0, .bool false, .int .i64 0, .string ⟨#[]⟩] 43)).heap.size = w.heap.size + 1 := by simp
  have hz2 : ((w.alloc (.cells #[.slice none 0 0, .bool false, .int .i64 0, .string ⟨#[]⟩] 43)).alloc (.cells #[.string (bs l), .bool false] 82)).heap.size = w.heap.size + 1 + 1 := by simp
  rw [hz1] at C0; rw [hz2] at D0; have R1 := (R0.kept (World.grownBy_alloc _ (.cells #[.string (bs l), .bool false] 82) none) (by simp)).kept (World.grownBy_alloc _ (.cells #[.slice none 0 0, .bool false, .int .i64 0, .string ⟨#[]⟩] 43) none) (by simp); have C1 := C0.kept (World.grownBy_alloc _ (.cells #[.slice none 0 0, .bool false, .int .i64 0, .string ⟨#[]⟩] 43) none) (by simp); have B1 : Below w.heap.size w (((w.alloc (.cells #[.slice none 0 0, .bool false, .int .i64 0, .string ⟨#[]⟩] 43)).alloc (.cells #[.string (bs l), .bool false] 82)).alloc (.cells #[.slice none 0 0, .bool false, .int .i64 0, .string ⟨#[]⟩] 43)) := (((Below.refl _ _).alloc (Nat.le_refl _) _).alloc (by simp) _).alloc (by simp; omega) _; refine (take_any (w.heap.size + 1) l (by omega) false 40 _ C1).mono ?_; rintro e w1 ⟨rfl, hC, hg⟩; have hR := R1.kept hg (by simp); have hD := D0.kept hg (by simp); have hsz1 := hD.lt; have hB := B1.grown hg (by simp; omega) (by simp); clear R0 C0 D0 hz1 hz2 R1 C1 B1 hg; replace hC := Lib.hid hC; replace hR := Lib.hid hR; replace hD := Lib.hid hD; replace hB := Lib.hid hB; have hM : ML w1 := hm.below hB.out; replace hM := Lib.hid hM
  obtain ⟨o, ho⟩ : ∃ o, o = if took l 40 then rdArgs (l.length + 1) l.tail else none := ⟨_, rfl⟩
  have hpo : parseD l = descOf o := by
   cases ht : took l 40
   ·rw [ho, ht, hpn.out ht]; rfl
   ·rw [ho, ht, hpa.out ht]; rfl
  replace hpo := Lib.hid hpo
  have hstart : took l 40 = true → ∃ q ts v, Good w w1 o (l.length + 1) q ts v := by
   intro ht; refine ⟨l.tail, [], .slice none 0 0, ?_⟩; have h0 := hC.out; rw [left, if_pos ht] at h0
   exact ⟨by simp; omega, by omega, by simp; omega, by rw [prep_nil, ho, if_pos ht], h0, hD.out, World.ownsRow_nil _ _ _ _⟩
  have hstart2 : took l 40 = false → o = none := by
   intro ht; rw [ho, ht]; rfl
  replace hstart := Lib.hid hstart; replace hstart2 := Lib.hid hstart2; clear ho hpn hpa hC hD; generalize took l 40 = ok0 at *; go_wp2
  go_step3
  go_wp2
  go_loopg [6] (l.length + 1) (fun g v6 wr => ∃ ok : Bool, v6 = .bool ok ∧ Four wr w.heap.size (.slice none 0 0) false 0 ⟨#[]⟩ ∧ ML wr ∧ Below w.heap.size w wr ∧ w.heap.size + 1 + 1 < wr.heap.size ∧ (ok = false → o = none) ∧ (ok = true → ∃ q ts v, Good w wr o g q ts v))
  case atStart => exact ⟨ok0, rfl, hR.out, hM.out, hB.out, hsz1, hstart2.out, hstart.out⟩
  case round =>
   obtain ⟨ok, rfl, hR, hM, hB, hsz, hno, hyes⟩ := hrel; have hlt := hR.lt; replace hM := Lib.hid hM; replace hB := Lib.hid hB
   cases ok
   ·have hpo2 : parseD l = (.zero, 4) := by rw [hpo.out, hno rfl]; rfl
    replace hpo2 := Lib.hid hpo2; clear hno hyes hpo; have h0 := hR.c0; have h1 := hR.c1; have h2 := hR.c2; have h3 := hR.c3; have f0 := hR.f0; have f1 := hR.f1; have f2 := hR.f2; have f3 := hR.f3; replace hR := Lib.hid hR; go_wp2; rw [Exit.noGoto_ret]; have T5 := (((hR.out.set0 (.slice none 0 0)).set1 false).set2 0).set3 ⟨#[]⟩; refine bodyPost_ret (v := .tuple #[descV (.slice none 0 0) false 0 ⟨#[]⟩, .int .i64 4]) (by simp [results, Tryd.results28, go_sem, descV, T5.c0, T5.c1, T5.c2, T5.c3]) rfl ⟨_, by rw [hpo2.out]; rfl, by rw [hpo2.out]; exact World.ownsRow_nil _ _ _ _, ?_⟩; have B0 := hB.out
    repeat' (first | assumption | apply Below.setCell | apply Below.alloc | apply Below.drew)
    all_goals (first | omega | (simp; done) | (simp; omega))
   ·obtain ⟨q, ts, v, G⟩ := hyes rfl
    clear hno hyes; have hql := G.len; have hqs := G.small; go_wp2_with fail; refine (take_any (w.heap.size + 1) q (by omega) (wideL ts) 41 _ G.cur).mono ?_; rintro e w2 ⟨rfl, hC, hg⟩; have hD := G.desc.kept hg (by simp)
    have hown := G.own.kept hg (by
     by_cases hb : v.ownBlock = none
     ·exact .inl hb
     ·right
      obtain ⟨kb, hkb⟩ := Option.ne_none_iff_exists'.1 hb; have := (G.own.lt kb hkb).1; rw [hkb]; intro e
      cases e
      omega)
    replace hR := hR.kept hg (by simp); have hM2 : ML w2 := ml_kept hM.out G.cur hg; have hB2 := hB.out.grown hg (by omega) (by simp); have hsz2 : w.heap.size + 1 + 1 < w2.heap.size := Nat.lt_of_lt_of_le hsz hg.size; have hrest := G.rest; have hcnt := G.count; clear G hg hM hB hlt hsz; replace hC := Lib.hid hC; replace hown := Lib.hid hown; replace hM2 := Lib.hid hM2; replace hB2 := Lib.hid hB2; replace hrest := Lib.hid hrest
    obtain ⟨f, rfl⟩ : ∃ f, gk = f + 1 := ⟨gk - 1, by omega⟩
    have hne : ∀ k, v.ownBlock = some k → w.heap.size + 3 ≤ k ∧ k < w2.heap.size := hown.out.lt
    have hneq : ∀ m, (m < w.heap.size + 3 ∨ w2.heap.size ≤ m) → v.ownBlock = none ∨ v.ownBlock ≠ some m := by
     intro m hm
     right
     intro e; have := hne m e
     omega
    replace hneq := Lib.hid hneq; clear hne
    cases t41 : took q 41
    ·have hC0 : Cur w2 (w.heap.size + 1) q (wideL ts) := by have := hC.out; rwa [left, t41] at this
     clear hC; have hTt := Two.new w2 0 ⟨#[]⟩ 41; have gA := World.grownBy_alloc w2 (.cells #[.int .i64 0, .string ⟨#[]⟩] 41) none
     have hsA : (w2.alloc (.cells #[.int .i64 0, .string ⟨#[]⟩] 41)).heap.size = w2.heap.size + 1 := by simp
     have hC1 := hC0.kept gA (by simp); have hM1 := ml_alloc hM2.out (.cells #[.int .i64 0, .string ⟨#[]⟩] 41); have hD1 := hD.kept gA (by simp); have hR1 := hR.kept gA (by simp); have hO1 := hown.out.alloc (.cells #[.int .i64 0, .string ⟨#[]⟩] 41); have hB1 := hB2.out.alloc (by omega) (.cells #[.int .i64 0, .string ⟨#[]⟩] 41); have O := Lib.hid (one_any (w.heap.size + 1) q (by omega) (wideL ts) _ hC1 hM1); replace hsA := Lib.hid hsA; replace gA := Lib.hid gA; replace hTt := Lib.hid hTt; replace hC1 := Lib.hid hC1; replace hM1 := Lib.hid hM1; replace hD1 := Lib.hid hD1; replace hR1 := Lib.hid hR1; replace hO1 := Lib.hid hO1; replace hB1 := Lib.hid hB1; clear hC0 hD hR hown hB2 hM2; go_wp2_with fail; refine O.out.mono ?_; rintro e w3 ⟨d, nm, rfl, hg3, hsome⟩
     have hTn : some w2.heap.size ≠ some (w.heap.size + 1) := by intro e; injection e with e; omega
     have hT3 := hTt.out.kept hg3 hTn; have hD3 := hD1.out.kept hg3 (by simp); have hR3 := hR1.out.kept hg3 (by simp); have hO3 := hO1.out.kept hg3 (hneq.out _ (.inl (by omega))); have hB3 := hB1.out.grown hg3 (by rw [hsA.out]; omega) (by simp); have hM3 := ml_kept hM1.out hC1.out hg3
     have hs3 : w2.heap.size < w3.heap.size := by have := hg3.size; rw [hsA.out] at this; omega
     clear O hTt hD1 hR1 hO1 hB1 hM1 hC1 hg3 gA hsA; have h1 := hT3.c0; have h2 := hT3.c1; have h3 := hT3.f0; have h4 := hT3.f1; replace hT3 := Lib.hid hT3; replace hD3 := Lib.hid hD3; replace hR3 := Lib.hid hR3; replace hO3 := Lib.hid hO3; replace hB3 := Lib.hid hB3; replace hM3 := Lib.hid hM3; replace hsome := Lib.hid hsome; go_upto_region 10 with fail; have g1 := gb_set w3 w2.heap.size 0 (.int .i64 d); have g2 := gb_set (w3.setCell ⟨w2.heap.size, 0, none⟩ (.int .i64 d)) w2.heap.size 1 (.string nm); have g12 := g1.trans g2; have hT4 := (hT3.out.set0 d).set1 nm
     have hx1 : some (w.heap.size + 1 + 1) ≠ some w2.heap.size := by intro e; injection e with e; omega
     have hx2 : some w.heap.size ≠ some w2.heap.size := by intro e; injection e with e; omega
     have hx3 : some (w.heap.size + 1) ≠ some w2.heap.size := by intro e; injection e with e; omega
     have hD4 := hD3.out.kept g12 hx1; have hR4 := hR3.out.kept g12 hx2; have hO4 := hO3.out.kept g12 (hneq.out _ (.inr (Nat.le_refl _))); have hB4 := hB3.out.grown g12 (by have := hB3.out.size; omega) (by intro k hk; cases hk; omega); have hs4 := g12.size; have hM4 : ML ((w3.setCell ⟨w2.heap.size, 0, none⟩ (.int .i64 d)).setCell ⟨w2.heap.size, 1, none⟩ (.string nm)) := hm.below hB4; have hC4 : ∀ r, (rd q).rest = some r → Cur ((w3.setCell ⟨w2.heap.size, 0, none⟩ (.int .i64 d)).setCell ⟨w2.heap.size, 1, none⟩ (.string nm)) (w.heap.size + 1) r (wideL ts || decide (255 < (rd q).dims)) := fun r hr => (hsome.out r hr).2.2.kept g12 hx3
     have hdn : ∀ r, (rd q).rest = some r → d = (rd q).dims ∧ nm = bs (rd q).name := fun r hr => ⟨(hsome.out r hr).1, (hsome.out r hr).2.1⟩
     clear g1 g2 g12 h1 h2 h3 h4 hT3 hD3 hR3 hO3 hB3 hM3 hsome hx1 hx2 hx3; generalize (w3.setCell ⟨w2.heap.size, 0, none⟩ (.int .i64 d)).setCell ⟨w2.heap.size, 1, none⟩ (.string nm) = W4 at *; have h1 := hT4.c0; have h2 := hT4.c1; have k1 := hD4.c0; have k2 := hD4.f0
     have hs5 : w.heap.size + 3 ≤ W4.heap.size := by omega
     have hv1 : ∀ m, m < w.heap.size + 3 → some m ≠ v.ownBlock := by
      intro m hm
      rcases hneq.out m (.inl hm) with h | h
      ·rw [h]; simp
      ·exact Ne.symm h
     have hvD := hv1 (w.heap.size + 1 + 1) (by omega); have hvR := hv1 w.heap.size (by omega); have hvC := hv1 (w.heap.size + 1) (by omega); clear hv1; replace hvD := Lib.hid hvD; replace hvR := Lib.hid hvR; replace hvC := Lib.hid hvC; replace hT4 := Lib.hid hT4; replace hD4 := Lib.hid hD4; replace hR4 := Lib.hid hR4; replace hO4 := Lib.hid hO4; replace hB4 := Lib.hid hB4; replace hM4 := Lib.hid hM4; replace hC4 := Lib.hid hC4; replace hdn := Lib.hid hdn; go_wp2_with (at_builtin; go_loud (refine append1 (w.heap.size + 3) rfl _ _ _ 41 (.agg #[.int .i64 0, .string ⟨#[]⟩]) 2 24 rfl Tryd.underlying39 infoT rfl (by decide) _ _ _ [.int .i64 d, .string nm] rfl _ (by simp) rfl rfl (by simp [Value.oneCell']) (by exact hO4.out) (by omega) (by omega) (by omega) ?_); intro v1 w5 hown5 hg5; obtain ⟨A1, cp1, rfl⟩ := own_shape hown5; have hD5 := hD4.out.kept hg5 hvD.out; have k1' := hD5.c0; have k2' := hD5.f0; replace hD5 := Lib.hid hD5; replace hown5 := Lib.hid hown5; replace hg5 := Lib.hid hg5)
     go_roundg f
     case rel =>
      have hR5 := hR4.out.kept hg5.out hvR.out; have hB5 := hB4.out.grown hg5.out (by omega) (by intro k hk; have := (hO4.out.lt k hk).1; omega); have gs := gb_set w5 (w.heap.size + 1 + 1) 0 (.slice A1 (ts.length + 1) cp1); refine ⟨_, rfl, hR5.kept gs (by simp; omega), hm.below (hB5.setCell (by simp; omega) _), hB5.setCell (by simp; omega) _, ?_, ?_, ?_⟩
      ·have := hg5.out.size; exact Nat.lt_of_lt_of_le (by omega) gs.size
      ·intro h
       have hn : (rd q).rest = none := by cases hh : (rd q).rest with | none => rfl | some r => rw [hh] at h; cases h
       rw [← hrest.out, rdArgs_fail f q ts t41 hn]
      ·intro h
       obtain ⟨r, hr⟩ : ∃ r, (rd q).rest = some r := Option.isSome_iff_exists.1 h; have hrl := rd_len q r hr; have hC5 := (hC4.out r hr).kept hg5.out hvC.out; refine ⟨r, ts ++ [((rd q).dims, (rd q).name)], .slice A1 (ts.length + 1) cp1, by omega, by omega, by simp; omega, ?_, ?_, hD5.out.set0 _, ?_⟩
       ·rw [← hrest.out, rdArgs_step f q r ts t41 hr]
       ·rw [wideL_snoc]; exact hC5.kept gs (by simp)
       ·have h6 := hown5.out
        rw [(hdn.out r hr).1, (hdn.out r hr).2, ← tyCells_snoc] at h6; rw [show (ts ++ [((rd q).dims, (rd q).name)]).length = ts.length + 1 by simp]
        exact h6.kept gs (.inr (by intro e; have := (h6.lt _ e).1; omega))
     case measure => omega
    ·have ho2 : o = some (ts, q.tail) := by rw [← hrest.out, rdArgs_close f q ts t41]
     have hpo2 : parseD l = descRet ts q.tail := by rw [hpo.out, ho2]; rfl
     have hC0 : Cur w2 (w.heap.size + 1) q.tail (wideL ts) := by have := hC.out; rwa [left, if_pos t41] at this
     have hqt : q.tail.length ≤ q.length := by simp
     generalize q.tail = q2 at *; replace hpo2 := Lib.hid hpo2; clear hC ho2 hrest t41 hpo; go_wp2_with fail; refine (take_any (w.heap.size + 1) q2 (by omega) (wideL ts) 86 _ hC0).mono ?_; rintro e w3 ⟨rfl, hC3, hg3⟩; have hD3 := hD.kept hg3 (by simp); have hR3 := hR.kept hg3 (by simp); have hO3 := hown.out.kept hg3 (hneq.out _ (.inl (by omega))); have hB3 := hB2.out.grown hg3 (by omega) (by simp); have hs3 : w2.heap.size ≤ w3.heap.size := hg3.size; clear hD hR hown hB2 hM2 hC0 hg3; have k1 := hD3.c1; have k2 := hD3.f1; replace hC3 := Lib.hid hC3; replace hD3 := Lib.hid hD3; replace hR3 := Lib.hid hR3; replace hO3 := Lib.hid hO3; replace hB3 := Lib.hid hB3
     cases t86 : took q2 86
     ·have hC4 : Cur w3 (w.heap.size + 1) q2 (wideL ts) := by have := hC3.out; rwa [left, t86] at this
      obtain ⟨A, cp, rfl⟩ := own_shape hO3.out; have gs := gb_set w3 (w.heap.size + 1 + 1) 1 (.bool false); have hD4 := hD3.out.set1 false; have hR4 := hR3.out.kept gs (by simp; omega); have hC4 := hC4.kept gs (by simp); have hO4 := hO3.out.kept gs (.inr (by intro e; have := (hO3.out.lt _ e).1; omega)); have hB4 := hB3.out.setCell (p := ⟨w.heap.size + 1 + 1, 1, none⟩) (by simp; omega) (.bool false); have hlt4 := hD4.lt; go_upto_region 13 with fail; clear gs hD3 hR3 hC3 hO3 hB3 k1 k2; generalize w3.setCell ⟨w.heap.size + 1 + 1, 1, none⟩ (.bool false) = W3 at *; have hM3 : ML W3 := hm.below hB4; have d1 := hD4.c1; have O := Lib.hid (one_any (w.heap.size + 1) q2 (by omega) (wideL ts) _ hC4 hM3); replace hC4 := Lib.hid hC4; replace hM3 := Lib.hid hM3; replace hD4 := Lib.hid hD4; replace hR4 := Lib.hid hR4; replace hO4 := Lib.hid hO4; replace hB4 := Lib.hid hB4
      have hpo3 : parseD l = match (rd q2).rest with
       | none => (DescR.zero, (4 : Int))
       | some r => descEnd ⟨ts, false, (rd q2).dims, (rd q2).name⟩ (wideL ts || decide (255 < (rd q2).dims)) r := by
       rw [hpo2.out, descRet, if_neg (by simp [t86])] <;> rfl
      replace hpo3 := Lib.hid hpo3; clear hpo2; go_wp2_with fail; refine O.out.mono ?_; rintro e w5 ⟨d, nm, rfl, hg5, hsome⟩; have hD5 := hD4.out.kept hg5 (by simp); have hR5 := hR4.out.kept hg5 (by simp); have hO5 := hO4.out.kept hg5 (.inr (by intro e; have := (hO4.out.lt _ e).1; omega)); have hB5 := hB4.out.grown hg5 (by omega) (by simp); have gs := (gb_set w5 (w.heap.size + 1 + 1) 2 (.int .i64 d)).trans (gb_set (w5.setCell ⟨w.heap.size + 1 + 1, 2, none⟩ (.int .i64 d)) (w.heap.size + 1 + 1) 3 (.string nm)); have k2 := hD5.c2; have k3 := hD5.c3; have e2 := hD5.f2; have e3 := hD5.f3; have hlt5 := hD5.lt; have hD6 := (hD5.set2 d).set3 nm; have hR6 := hR5.kept gs (by simp; omega); have hO6 := hO5.kept gs (.inr (by intro e; have := (hO5.lt _ e).1; omega)); have hB6 := hB5.grown gs (by omega) (by intro k hk; cases hk; omega)
      have hC6 : ∀ r, (rd q2).rest = some r → d = (rd q2).dims ∧ nm = bs (rd q2).name ∧ Cur ((w5.setCell ⟨w.heap.size + 1 + 1, 2, none⟩ (.int .i64 d)).setCell ⟨w.heap.size + 1 + 1, 3, none⟩ (.string nm)) (w.heap.size + 1) r (wideL ts || decide (255 < (rd q2).dims)) := fun r hr => ⟨(hsome r hr).1, (hsome r hr).2.1, (hsome r hr).2.2.kept gs (by simp)⟩
      clear hD5 hR5 hO5 hB5 gs hD4 hR4 hO4 hB4 hC4 hM3 O hg5 hsome d1; replace hD6 := Lib.hid hD6; replace hR6 := Lib.hid hR6; replace hO6 := Lib.hid hO6; replace hB6 := Lib.hid hB6; replace hC6 := Lib.hid hC6; go_upto_region 15 with fail; clear k2 k3 e2 e3; generalize (w5.setCell ⟨w.heap.size + 1 + 1, 2, none⟩ (.int .i64 d)).setCell ⟨w.heap.size + 1 + 1, 3, none⟩ (.string nm) = W4 at *; have hD4 := hD6; have hR4 := hR6; have hO4 := hO6; have hB4 := hB6; clear hD6 hR6 hO6 hB6
      cases hr : (rd q2).rest with
      | none =>
       have hpo5 : parseD l = (.zero, 4) := by rw [hpo3.out, hr]
       replace hpo5 := Lib.hid hpo5; clear hC6; have h0 := hR4.out.c0; have h1 := hR4.out.c1; have h2 := hR4.out.c2; have h3 := hR4.out.c3; have f0 := hR4.out.f0; have f1 := hR4.out.f1; have f2 := hR4.out.f2; have f3 := hR4.out.f3; have hs4 := hR4.out.lt; go_wp2; rw [Exit.noGoto_ret]; have T5 := (((hR4.out.set0 (.slice none 0 0)).set1 false).set2 0).set3 ⟨#[]⟩; refine bodyPost_ret (v := .tuple #[descV (.slice none 0 0) false 0 ⟨#[]⟩, .int .i64 4]) (by simp [results, Tryd.results28, go_sem, descV, T5.c0, T5.c1, T5.c2, T5.c3]) rfl ⟨_, by rw [hpo5.out]; rfl, by rw [hpo5.out]; exact World.ownsRow_nil _ _ _ _, ?_⟩; have B0 := hB4.out
       repeat' (first | assumption | apply Below.setCell | apply Below.alloc | apply Below.drew)
       all_goals (first | omega | (simp; done) | (simp; omega))
      | some r =>
       obtain ⟨rfl, rfl, hC4⟩ := hC6.out r hr; replace hC4 := Lib.hid hC4
       have hpo4 : parseD l = descEnd ⟨ts, false, (rd q2).dims, (rd q2).name⟩ (wideL ts || decide (255 < (rd q2).dims)) r := by rw [hpo3.out, hr]
       replace hpo4 := Lib.hid hpo4; clear hC6 hpo3 hr; generalize (wideL ts || decide (255 < (rd q2).dims)) = wd at *; generalize (rd q2).dims = k at *; generalize (rd q2).name = nm at *; have h0 := hR4.out.c0; have h1 := hR4.out.c1; have h2 := hR4.out.c2; have h3 := hR4.out.c3; have f0 := hR4.out.f0; have f1 := hR4.out.f1; have f2 := hR4.out.f2; have f3 := hR4.out.f3; have d0 := hD4.out.c0; have d1 := hD4.out.c1; have d2 := hD4.out.c2; have d3 := hD4.out.c3; have p0 := hC4.out.c0; have p1 := hC4.out.c1; have hs4 := hR4.out.lt
       cases r with
       | cons x r =>
        have hpo5 : parseD l = (.zero, 4) := by rw [hpo4.out, descEnd, if_pos (by simp)]
        replace hpo5 := Lib.hid hpo5
        have hne : ¬ (bs (x :: r)).toList = [] := by
         rw [ByteArray.toList_eq]; simp [bs]
        have hie : (bs (x :: r)).toList.isEmpty = false := by
         rw [ByteArray.toList_eq]; simp [bs]
        generalize bs (x :: r) = sr at *; go_wp2; rw [Exit.noGoto_ret]; have T5 := (((hR4.out.set0 (.slice none 0 0)).set1 false).set2 0).set3 ⟨#[]⟩; refine bodyPost_ret (v := .tuple #[descV (.slice none 0 0) false 0 ⟨#[]⟩, .int .i64 4]) (by simp [results, Tryd.results28, go_sem, descV, T5.c0, T5.c1, T5.c2, T5.c3]) rfl ⟨_, by rw [hpo5.out]; rfl, by rw [hpo5.out]; exact World.ownsRow_nil _ _ _ _, ?_⟩; have B0 := hB4.out
        repeat' (first | assumption | apply Below.setCell | apply Below.alloc | apply Below.drew)
        all_goals (first | omega | (simp; done) | (simp; omega))
       | nil =>
        rw [bs_nil] at p0
        by_cases hbad : wd = true ∨ 20 < ts.length
        ·have hpo5 : parseD l = (.zero, 5) := by rw [hpo4.out, descEnd, if_neg (by simp), if_pos (by simpa using hbad)]
         replace hpo5 := Lib.hid hpo5
         rcases hbad with rfl | hbad
         ·skip
          go_wp2; rw [Exit.noGoto_ret]; have T5 := (((hR4.out.set0 (.slice none 0 0)).set1 false).set2 0).set3 ⟨#[]⟩; refine bodyPost_ret (v := .tuple #[descV (.slice none 0 0) false 0 ⟨#[]⟩, .int .i64 5]) (by simp [results, Tryd.results28, go_sem, descV, T5.c0, T5.c1, T5.c2, T5.c3]) rfl ⟨_, by rw [hpo5.out]; rfl, by rw [hpo5.out]; exact World.ownsRow_nil _ _ _ _, ?_⟩; have B0 := hB4.out
          repeat' (first | assumption | apply Below.setCell | apply Below.alloc | apply Below.drew)
          all_goals (first | omega | (simp; done) | (simp; omega))
         ·have hbi : (20 : Int) < (ts.length : Int) := by omega
          cases wd
          all_goals
           go_wp2; rw [Exit.noGoto_ret]; have T5 := (((hR4.out.set0 (.slice none 0 0)).set1 false).set2 0).set3 ⟨#[]⟩; refine bodyPost_ret (v := .tuple #[descV (.slice none 0 0) false 0 ⟨#[]⟩, .int .i64 5]) (by simp [results, Tryd.results28, go_sem, descV, T5.c0, T5.c1, T5.c2, T5.c3]) rfl ⟨_, by rw [hpo5.out]; rfl, by rw [hpo5.out]; exact World.ownsRow_nil _ _ _ _, ?_⟩; have B0 := hB4.out
           repeat' (first | assumption | apply Below.setCell | apply Below.alloc | apply Below.drew)
           all_goals (first | omega | (simp; done) | (simp; omega))
        ·have hpo5 : parseD l = (⟨ts, false, (k : Int), nm⟩, 0) := by rw [hpo4.out, descEnd, if_neg (by simp), if_neg (by simpa using hbad)]
         replace hpo5 := Lib.hid hpo5
         obtain ⟨hw, hsm⟩ : wd = false ∧ (ts.length : Int) ≤ 20 := by simp at hbad; exact ⟨hbad.1, by omega⟩
         subst hw; go_wp2; rw [Exit.noGoto_ret]; have T5 := (((hR4.out.set0 (.slice A ts.length cp)).set1 false).set2 (k : Int)).set3 (bs nm); refine bodyPost_ret (v := .tuple #[descV (.slice A ts.length cp) false (k : Int) (bs nm), .int .i64 0]) (by simp [results, Tryd.results28, go_sem, descV, T5.c0, T5.c1, T5.c2, T5.c3]) rfl ⟨_, by rw [hpo5.out] <;> rfl, ?_, ?_⟩
         ·rw [hpo5.out]
          have hnB : ∀ kk, (Value.slice A ts.length cp).ownBlock = some kk → w.heap.size + 3 ≤ kk := fun kk h => (hO4.out.lt kk h).1; have hnn : (Value.slice A ts.length cp).ownBlock = none ∨ (Value.slice A ts.length cp).ownBlock ≠ some w.heap.size := .inr (by intro e; have := hnB _ e; omega)
          exact own_mono ((((hO4.out.kept (gb_set _ _ _ _) hnn).kept (gb_set _ _ _ _) hnn).kept (gb_set _ _ _ _) hnn).kept (gb_set _ _ _ _) hnn) (by omega)
         ·have B0 := hB4.out
          repeat' (first | assumption | apply Below.setCell | apply Below.alloc | apply Below.drew)
          all_goals (first | omega | (simp; done) | (simp; omega))
     ·have hC4 : Cur w3 (w.heap.size + 1) q2.tail (wideL ts) := by have := hC3.out; rwa [left, if_pos t86] at this
      have hpo3 : parseD l = descEnd ⟨ts, true, 0, []⟩ (wideL ts) q2.tail := by rw [hpo2.out, descRet, if_pos t86]
      obtain ⟨A, cp, rfl⟩ := own_shape hO3.out; go_upto_region 13 with fail; have gs := gb_set w3 (w.heap.size + 1 + 1) 1 (.bool true); have hD4 := hD3.out.set1 true; have hR4 := hR3.out.kept gs (by simp; omega); have hC4 := hC4.kept gs (by simp); have hO4 := hO3.out.kept gs (.inr (by intro e; have := (hO3.out.lt _ e).1; omega)); have hB4 := hB3.out.setCell (p := ⟨w.heap.size + 1 + 1, 1, none⟩) (by simp; omega) (.bool true); clear gs hD3 hR3 hC3 hO3 hB3 k1 k2; generalize w3.setCell ⟨w.heap.size + 1 + 1, 1, none⟩ (.bool true) = W4 at *; replace hD4 := Lib.hid hD4; replace hR4 := Lib.hid hR4; replace hC4 := Lib.hid hC4; replace hO4 := Lib.hid hO4; replace hB4 := Lib.hid hB4; generalize q2.tail = r at *; generalize wideL ts = wd at *; have hpo4 := Lib.hid hpo3; clear hpo3 hpo2; have h0 := hR4.out.c0; have h1 := hR4.out.c1; have h2 := hR4.out.c2; have h3 := hR4.out.c3; have f0 := hR4.out.f0; have f1 := hR4.out.f1; have f2 := hR4.out.f2; have f3 := hR4.out.f3; have d0 := hD4.out.c0; have d1 := hD4.out.c1; have d2 := hD4.out.c2; have d3 := hD4.out.c3; have p0 := hC4.out.c0; have p1 := hC4.out.c1; have hs4 := hR4.out.lt
      cases r with
      | cons x r =>
       have hpo5 : parseD l = (.zero, 4) := by rw [hpo4.out, descEnd, if_pos (by simp)]
       replace hpo5 := Lib.hid hpo5
       have hne : ¬ (bs (x :: r)).toList = [] := by
        rw [ByteArray.toList_eq]; simp [bs]
       have hie : (bs (x :: r)).toList.isEmpty = false := by
        rw [ByteArray.toList_eq]; simp [bs]
       generalize bs (x :: r) = sr at *; go_wp2; rw [Exit.noGoto_ret]; have T5 := (((hR4.out.set0 (.slice none 0 0)).set1 false).set2 0).set3 ⟨#[]⟩; refine bodyPost_ret (v := .tuple #[descV (.slice none 0 0) false 0 ⟨#[]⟩, .int .i64 4]) (by simp [results, Tryd.results28, go_sem, descV, T5.c0, T5.c1, T5.c2, T5.c3]) rfl ⟨_, by rw [hpo5.out]; rfl, by rw [hpo5.out]; exact World.ownsRow_nil _ _ _ _, ?_⟩; have B0 := hB4.out
       repeat' (first | assumption | apply Below.setCell | apply Below.alloc | apply Below.drew)
       all_goals (first | omega | (simp; done) | (simp; omega))
      | nil =>
       rw [bs_nil] at p0
       by_cases hbad : wd = true ∨ 20 < ts.length
       ·have hpo5 : parseD l = (.zero, 5) := by rw [hpo4.out, descEnd, if_neg (by simp), if_pos (by simpa using hbad)]
        replace hpo5 := Lib.hid hpo5
        rcases hbad with rfl | hbad
        ·skip
         go_wp2; rw [Exit.noGoto_ret]; have T5 := (((hR4.out.set0 (.slice none 0 0)).set1 false).set2 0).set3 ⟨#[]⟩; refine bodyPost_ret (v := .tuple #[descV (.slice none 0 0) false 0 ⟨#[]⟩, .int .i64 5]) (by simp [results, Tryd.results28, go_sem, descV, T5.c0, T5.c1, T5.c2, T5.c3]) rfl ⟨_, by rw [hpo5.out]; rfl, by rw [hpo5.out]; exact World.ownsRow_nil _ _ _ _, ?_⟩; have B0 := hB4.out
         repeat' (first | assumption | apply Below.setCell | apply Below.alloc | apply Below.drew)
         all_goals (first | omega | (simp; done) | (simp; omega))
        ·have hbi : (20 : Int) < (ts.length : Int) := by omega
         cases wd
         all_goals
          go_wp2; rw [Exit.noGoto_ret]; have T5 := (((hR4.out.set0 (.slice none 0 0)).set1 false).set2 0).set3 ⟨#[]⟩; refine bodyPost_ret (v := .tuple #[descV (.slice none 0 0) false 0 ⟨#[]⟩, .int .i64 5]) (by simp [results, Tryd.results28, go_sem, descV, T5.c0, T5.c1, T5.c2, T5.c3]) rfl ⟨_, by rw [hpo5.out]; rfl, by rw [hpo5.out]; exact World.ownsRow_nil _ _ _ _, ?_⟩; have B0 := hB4.out
          repeat' (first | assumption | apply Below.setCell | apply Below.alloc | apply Below.drew)
          all_goals (first | omega | (simp; done) | (simp; omega))
       ·have hpo5 : parseD l = (⟨ts, true, 0, []⟩, 0) := by rw [hpo4.out, descEnd, if_neg (by simp), if_neg (by simpa using hbad)]
        replace hpo5 := Lib.hid hpo5
        obtain ⟨hw, hsm⟩ : wd = false ∧ (ts.length : Int) ≤ 20 := by simp at hbad; exact ⟨hbad.1, by omega⟩
        subst hw; go_wp2; rw [Exit.noGoto_ret]; have T5 := (((hR4.out.set0 (.slice A ts.length cp)).set1 true).set2 0).set3 ⟨#[]⟩; refine bodyPost_ret (v := .tuple #[descV (.slice A ts.length cp) true 0 ⟨#[]⟩, .int .i64 0]) (by simp [results, Tryd.results28, go_sem, descV, T5.c0, T5.c1, T5.c2, T5.c3]) rfl ⟨_, by rw [hpo5.out] <;> rfl, ?_, ?_⟩
        ·rw [hpo5.out]
         have hnB : ∀ kk, (Value.slice A ts.length cp).ownBlock = some kk → w.heap.size + 3 ≤ kk := fun kk h => (hO4.out.lt kk h).1; have hnn : (Value.slice A ts.length cp).ownBlock = none ∨ (Value.slice A ts.length cp).ownBlock ≠ some w.heap.size := .inr (by intro e; have := hnB _ e; omega)
         exact own_mono ((((hO4.out.kept (gb_set _ _ _ _) hnn).kept (gb_set _ _ _ _) hnn).kept (gb_set _ _ _ _) hnn).kept (gb_set _ _ _ _) hnn) (by omega)
        ·have B0 := hB4.out
         repeat' (first | assumption | apply Below.setCell | apply Below.alloc | apply Below.drew)
         all_goals (first | omega | (simp; done) | (simp; omega))
end Go.Proofs.YtajplppeijmfpaaDoor.Ty

namespace Go.Proofs.YtajplppeijmfpaaDoor.Ty
open Go Go.RowKit Go.Proofs.YtajplppeijmfpaaDoor.Nm
set_option linter.unusedVariables false
set_option linter.unusedSimpArgs false
set_option maxHeartbeats 1000000
set_option maxRecDepth 10000
def chk (d : Int) (nm : List UInt8) : Int := if d < 0 ∨ 255 < d then 1 else if nm ≠ [] ∧ validB (bs nm) = false then 1 else 0
theorem check_any (d : Int) (nm : List UInt8) (w : World) (hm : ML w) : Calls Tryd.prog 50 #[tyV d nm] w fun e w' => e = .returned (.int .i64 (chk d nm)) ∧ Below w.heap.size w w' := by
 have B0 := Lib.hid ((Below.refl w.heap.size w).alloc (Nat.le_refl _) (.cells #[.int .i64 d, .string (bs nm)] 41)); have V := Lib.hid (valid_any (bs nm) (w.alloc (.cells #[.int .i64 d, .string (bs nm)] 41)) (hm.below (gb_none (World.grownBy_alloc w _ none)))); clear hm
 have hne : nm ≠ [] → ¬ (bs nm).toList = [] ∧ (bs nm).toList.isEmpty = false := by
  intro h; rw [ByteArray.toList_eq, mk_toList]
  exact ⟨h, by cases nm with | nil => exact absurd rfl h | cons => rfl⟩
 have hc : chk d nm = if d < 0 ∨ 255 < d then 1 else if nm ≠ [] ∧ validB (bs nm) = false then 1 else 0 := rfl
 replace hc := Lib.hid hc
 by_cases hd : d < 0 ∨ 255 < d
 ·have h1 : chk d nm = 1 := by rw [hc.out, if_pos hd]
  rw [h1]; clear hne V; go_enter Tryd.func50, Tryd.ntmps50; rw [tyV]
  rcases hd with hd | hd
  all_goals
   go_wp2; go_ret
   exact ⟨rfl, B0.out⟩
 ·have hd1 : 0 ≤ d := by omega
  have hd2 : d ≤ 255 := by omega
  clear hd
  cases nm with
  | nil =>
   have h1 : chk d [] = 0 := by rw [hc.out, if_neg (by omega), if_neg (by simp)]
   rw [h1]; clear hne V hc; rw [tyV, bs_nil]; rw [bs_nil] at B0; go_enter Tryd.func50, Tryd.ntmps50; go_wp2; go_ret
   exact ⟨rfl, B0.out⟩
  | cons x r =>
   obtain ⟨n1, n2⟩ := hne (by simp)
   cases hv : validB (bs (x :: r))
   ·have h1 : chk d (x :: r) = 1 := by rw [hc.out, if_neg (by omega), if_pos ⟨by simp, hv⟩]
    rw [h1, tyV]; rw [hv] at V; clear hc hv hne; generalize bs (x :: r) = s at *; go_enter Tryd.func50, Tryd.ntmps50; go_wp2_with (go_at_call 43; refine V.out.mono ?_; rintro e w3 ⟨rfl, hb⟩; replace hb := Lib.hid hb); go_ret
    exact ⟨rfl, B0.out.trans (hb.out.mono (by simp))⟩
   ·have h1 : chk d (x :: r) = 0 := by rw [hc.out, if_neg (by omega), if_neg (by simp [hv])]
    rw [h1, tyV]; rw [hv] at V; clear hc hv hne; generalize bs (x :: r) = s at *; go_enter Tryd.func50, Tryd.ntmps50; go_wp2_with (go_at_call 43; refine V.out.mono ?_; rintro e w3 ⟨rfl, hb⟩; replace hb := Lib.hid hb); go_ret
    exact ⟨rfl, B0.out.trans (hb.out.mono (by simp))⟩
end Go.Proofs.YtajplppeijmfpaaDoor.Ty

namespace Go.Proofs.YtajplppeijmfpaaDoor.Ty
open Go Go.RowKit Go.Proofs.YtajplppeijmfpaaDoor.Nm
set_option linter.unusedVariables false
set_option linter.unusedSimpArgs false
set_option maxHeartbeats 1000000
set_option maxRecDepth 10000
theorem same_any (d1 d2 : Int) (n1 n2 : List UInt8) (w : World) : Calls Tryd.prog 58 #[tyV d1 n1, tyV d2 n2] w fun e w' =>
  e = .returned (.bool (decide (d1 = d2 ∧ n1 = n2))) ∧ Below w.heap.size w w' := by
 have hn : (bs n1).toList = (bs n2).toList ↔ n1 = n2 := by
  rw [ByteArray.toList_eq, ByteArray.toList_eq, mk_toList, mk_toList]
 have B0 := Below.refl w.heap.size w; replace hn := Lib.hid hn; rw [tyV, tyV]; generalize bs n1 = s1 at *; generalize bs n2 = s2 at *; go_enter Tryd.func58, Tryd.ntmps58; go_wp2
 all_goals
  go_ret; refine ⟨ret_bool ?_, ?_⟩
  ·have h := hn.out
   rw [Bool.eq_iff_iff]
   simp_all
  ·repeat' (first | assumption | apply Below.setCell | apply Below.alloc | apply Below.drew)
   all_goals (first | omega | (simp; done) | (simp; omega))
end Go.Proofs.YtajplppeijmfpaaDoor.Ty

namespace Go.Proofs.YtajplppeijmfpaaDoor.Pt
open Go Go.RowKit Go.Proofs.YtajplppeijmfpaaDoor.Nm Go.Proofs.YtajplppeijmfpaaDoor.Ty Go.Proofs.YtajplppeijmfpaaDoorW.PrintWords Go.Proofs.YtajplppeijmfpaaDoorW.PrintLast Go.Proofs.YtajplppeijmfpaaDoorW.PrintMore
set_option linter.unusedVariables false
set_option linter.unusedSimpArgs false
def tup3 (p : Int × List UInt8 × Int) : Int × ByteArray × Int := (p.1, bs p.2.1, p.2.2)
def tup2 (p : List UInt8 × Int) : ByteArray × Int := (bs p.1, p.2)
theorem len_data (s : ByteArray) : s.data.toList.length = s.size := by rw [Array.length_toList]; rfl
theorem some_inj3 {a b c : Type} {p : a × b × c} {x : a} {y : b} {z : c} (h : some p = some (x, y, z)) : p.1 = x ∧ p.2.1 = y ∧ p.2.2 = z := by cases h; exact ⟨rfl, rfl, rfl⟩
theorem some_inj2 {a b : Type} {p : a × b} {x : a} {y : b} (h : some p = some (x, y)) : p.1 = x ∧ p.2 = y := by cases h; exact ⟨rfl, rfl⟩
def types_Parse.f (a0 : ByteArray) : Option (Int × ByteArray × Int) := some (tup3 (parseT a0.data.toList))
theorem types_Parse.calls (a0 : ByteArray) (r1 : Int) (r2 : ByteArray) (r3 : Int) (w : World) (h : types_Parse.f a0 = some (r1, r2, r3)) :
  Calls Tryd.prog 30 #[.string a0] w fun e w' => e = .returned (.tuple #[.agg #[.int .i64 r1, .string r2], .int .i64 r3]) ∧ Below w.heap.size w w' := by
 unfold types_Parse.f at h; obtain ⟨rfl, rfl, rfl⟩ := some_inj3 h; have C := parse_any a0.data.toList w trivial; rw [mk_data] at C
 exact C
def types_ParseRef.f (a0 : ByteArray) : Option (Int × ByteArray × Int) := some (tup3 (parseR a0.data.toList))
def types_Check.f (a0_0 : Int) (a0_1 : ByteArray) : Option Int := some (chk a0_0 a0_1.data.toList)
def arbiterref02_Same.f (a0_0 : Int) (a0_1 : ByteArray) (a1_0 : Int) (a1_1 : ByteArray) : Option Bool := some (decide (a0_0 = a1_0 ∧ a0_1.data.toList = a1_1.data.toList))
theorem arbiterref02_Same.calls (a0_0 : Int) (a0_1 : ByteArray) (a1_0 : Int) (a1_1 : ByteArray) (r : Bool) (w : World) (h : arbiterref02_Same.f a0_0 a0_1 a1_0 a1_1 = some r) :
  Calls Tryd.prog 58 #[.agg #[.int .i64 a0_0, .string a0_1], .agg #[.int .i64 a1_0, .string a1_1]] w fun e w' => e = .returned (.bool r) ∧ Below w.heap.size w w' := by
 unfold arbiterref02_Same.f at h; obtain rfl := Option.some.inj h; have C := same_any a0_0 a1_0 a0_1.data.toList a1_1.data.toList w; rw [tyV, tyV, mk_data, mk_data] at C
 exact C
def toS (p : Nat × List UInt8) : S41 := ⟨p.1, bs p.2⟩
theorem reps_ty {w : World} {base : Nat} {ok : Nat → Prop} (ts : List (Nat × List UInt8)) : Reps (k41.M w base ok) 2 (ts.map toS) (tyCells ts) := by
 refine ⟨?_, fun j p hj => ?_⟩
 ·induction ts with
  | nil => rfl
  | cons a ts ih => simp only [tyCells, List.flatMap_cons, List.length_append, List.map_cons, List.length_cons, List.length_nil] at ih ⊢; omega
 ·rw [List.getElem?_map] at hj
  obtain ⟨a, ha, rfl⟩ := Option.map_eq_some_iff.1 hj
  have e : ((tyCells ts).drop (j * 2)).take 2 = [.int .i64 (a.1 : Int), .string (bs a.2)] := by
   clear hj
   induction ts generalizing j with
   | nil => simp at ha
   | cons b ts ih =>
    cases j with
    | zero => simp at ha; subst ha; simp [tyCells]
    | succ j =>
     simp at ha; have := ih j ha; rw [show (j + 1) * 2 = j * 2 + 2 from by omega]
     simpa [tyCells] using this
  rw [e]
  exact k41_mkM w base ok (toS a)
theorem own_R {w' : World} {base : Nat} {v : Value} {ts : List (Nat × List UInt8)} (h : w'.ownsRow base 41 2 v ts.length (tyCells ts)) : Kd.R k41 41 w' base (fun _ => True) v (ts.map toS) :=
 ⟨fun _ _ => trivial, tyCells ts, by rw [List.length_map]; exact h, reps_ty ts⟩
def tup5 (p : DescR × Int) : (List S41) × Bool × Int × ByteArray × Int := (p.1.args.map toS, p.1.void, p.1.rdims, bs p.1.rname, p.2)
def types_ParseDesc.f (a0 : ByteArray) : Option ((List S41) × Bool × Int × ByteArray × Int) := some (tup5 (parseD a0.data.toList))
theorem types_ParseDesc.calls (a0 : ByteArray) (r1 : List S41) (r2 : Bool) (r3 : Int) (r4 : ByteArray) (r5 : Int) (w : World) (h : types_ParseDesc.f a0 = some (r1, r2, r3, r4, r5)) :
  Calls Tryd.prog 28 #[.string a0] w fun e w' => ∃ v0_ : Value, e = .returned (.tuple #[.agg #[v0_, .bool r2, .int .i64 r3, .string r4], .int .i64 r5]) ∧ Kd.R k41 41 w' w.heap.size (fun _ => True) v0_ r1 ∧ Below w.heap.size w w' := by
 unfold types_ParseDesc.f at h; have h1 : tup5 (parseD a0.data.toList) = (r1, r2, r3, r4, r5) := Option.some.inj h; simp only [tup5, Prod.mk.injEq] at h1; obtain ⟨rfl, rfl, rfl, rfl, rfl⟩ := h1; have C := parsedesc_any a0.data.toList w trivial; rw [mk_data] at C; refine C.mono ?_; rintro e w' ⟨v, rfl, hown, hB⟩
 exact ⟨v, rfl, own_R hown, hB⟩
def types_Args.f (a0 : ByteArray) : Option (Int × Int) := some (((parseD a0.data.toList).1.args.length : Int), (parseD a0.data.toList).2)
def names_Valid.f (a0 : ByteArray) : Option Bool := some (validB a0)
end Go.Proofs.YtajplppeijmfpaaDoor.Pt

namespace Go.Proofs.YtajplppeijmfpaaDoor.Nm
open Go Go.RowKit
set_option linter.unusedVariables false
set_option linter.unusedSimpArgs false
set_option maxHeartbeats 400000
set_option maxRecDepth 10000
theorem letB_digit (n : Int) : letB n false = (letB n true || decide (48 ≤ n ∧ n ≤ 57)) := by simp [letB]
theorem letB_true (n : Int) : letB n true = true ↔ ((97 ≤ n ∧ n ≤ 122) ∨ (65 ≤ n ∧ n ≤ 90) ∨ n = 95 ∨ n = 36) := by simp [letB, or_assoc]
theorem letB_any (n : Int) (b : Bool) (h : letB n true = true) : letB n b = true := by cases b <;> simp_all [letB]
theorem letB_digit' (n : Int) (h : ¬ letB n true = true) (h2 : n < 48 ∨ 57 < n) : letB n false = false := by
 have h := eq_false_of_ne_true h; rw [letB_digit, h]; simp
 omega
theorem isEmpty_size (s : ByteArray) : s.toList.isEmpty = decide (s.size = 0) := by
 rw [ByteArray.toList_eq, Bool.eq_iff_iff]; simp only [List.isEmpty_iff, decide_eq_true_eq]; rw [← List.length_eq_zero_iff, Array.length_toList]
 exact Iff.rfl
theorem rletter_any (n : Int) (h0 : 0 ≤ n) (h1 : n ≤ 255) (w : World) : Calls Tryd.prog 69 #[.int .u8 n] w fun e w' => e = .returned (.bool (letB n true)) ∧ w' = w := by
 go_enter Tryd.func69, Tryd.ntmps69; go_wp2
 all_goals
  go_ret; refine ⟨ret_bool ?_, rfl⟩; rw [Bool.eq_iff_iff, letB_true]
  simp_all
 all_goals omega
theorem rpart_any (s : ByteArray) (hs : s.size ≤ 4611686018427387904) (w : World) : Calls Tryd.prog 47 #[.string s] w fun e w' => e = .returned (.bool (partB s)) ∧ w' = w := by
 go_enter Tryd.func47, Tryd.ntmps47; go_wp2
 go_loop [3] (fun i => ∃ k : Nat, k ≤ s.size ∧ i = .int .i64 k ∧ lets s k = true) (fun i => s.size - (intOf i).toNat)
 case atStart => exact ⟨0, Nat.zero_le _, rfl, rfl⟩
 case round =>
  obtain ⟨k, hk, rfl, hl⟩ := hrel; replace hl := Lib.hid hl
  by_cases hlt : k < s.size
  ·have hb := bt_at s k hlt
   have hr := bt_range s k; have hsn := lets_succ s k; generalize hbk : bt s k = n at *; replace hbk := Lib.hid hbk; replace hsn := Lib.hid hsn
   have hno : ∀ b : Bool, b = ((k : Int) == 0) → letB n b = false → partB s = false := fun b e h => by rw [partB, lets_false s k s.size hlt (by rw [hbk.out, ← e]; exact h)]; rfl
   replace hno := Lib.hid hno; go_wp2_with (go_at_call 69; refine (rletter_any _ (by omega) (by omega) _).mono ?_; rintro e w1 ⟨rfl, rfl⟩)
   ·have hL : letB n true = true := by assumption
    go_round
    case rel => exact ⟨k + 1, by omega, by go_num, by rw [hsn.out, hl.out, letB_any n _ hL]; rfl⟩
    case measure => simp [intOf]; omega
   ·have hL : ¬ letB n true = true := by assumption
    have hk0 : k = 0 := by assumption
    go_ret
    exact ⟨ret_bool (hno.out true (by rw [hk0]; rfl) (eq_false_of_ne_true hL)).symm, rfl⟩
   ·have hL : ¬ letB n true = true := by assumption
    have hk0 : ¬ k = 0 := by assumption
    have hd : ((((k : Int) == 0) = true ∨ n < 48) ∨ 57 < n) := by assumption
    have hk1 : ((k : Int) == 0) = false := beq_eq_false_iff_ne.2 (by omega); rw [hk1] at hd; go_ret
    exact ⟨ret_bool (hno.out false hk1.symm (letB_digit' n hL (by simp at hd; omega))).symm, rfl⟩
   ·have hk0 : ¬ k = 0 := by assumption
    have hd : ((((k : Int) == 0) = false ∧ 48 ≤ n) ∧ n ≤ 57) := by assumption
    go_round
    case rel => exact ⟨k + 1, by omega, by go_num, by rw [hsn.out, hl.out, hd.1.1, letB_digit]; simp; omega⟩
    case measure => simp [intOf]; omega
   ·have hL : ¬ letB n true = true := by assumption
    have hk0 : ¬ k = 0 := by assumption
    have hk1 : ((k : Int) == 0) = false := beq_eq_false_iff_ne.2 (by omega)
    have hd : n < 48 := by assumption
    go_ret
    exact ⟨ret_bool (hno.out false hk1.symm (letB_digit' n hL (by omega))).symm, rfl⟩
  ·obtain rfl : k = s.size := by omega
   go_wp2; go_ret
   exact ⟨ret_bool (by rw [partB, hl.out, isEmpty_size, Bool.eq_iff_iff]; simp only [decide_eq_true_eq, Bool.true_and, Bool.not_eq_true', decide_eq_false_iff_not]; omega), rfl⟩
theorem strsT : (Tryd.prog.info? 9).map (fun i => (i.zero, i.size, i.bytes)) = some (some (.string ⟨#[]⟩), 1, 16) := by kernel_rfl
def strL (l : List ByteArray) : List Value := l.map Value.string
theorem strL_snoc (l : List ByteArray) (x : ByteArray) : strL (l ++ [x]) = strL l ++ [.string x] := by simp [strL]
theorem RdS_own {w : World} {base g cap n : Nat} {e : TypeId} {l : List ByteArray} (h : w.ownsRow base e 1 (.slice (some ⟨g, 0, none⟩) n cap) n (strL l)) : RdS w g 0 l := by
 intro j x hx; rw [Nat.zero_add]
 exact own_cell h j _ (by simp [strL, hx])
theorem rparts_any (s : ByteArray) (hs : s.size ≤ 4294967296) (w : World) : Calls Tryd.prog 23 #[.string s] w fun e w' =>
  (∃ g cap, e = .returned (.slice (some ⟨g, 0, none⟩) (partsB s).length cap) ∧ w'.ownsRow w.heap.size 9 1 (.slice (some ⟨g, 0, none⟩) (partsB s).length cap) (partsB s).length (strL (partsB s))) ∧ Below w.heap.size w w' := by
 go_enter Tryd.func23, Tryd.ntmps23; go_wp2
 go_loopw [3, 4, 5] (fun v fr i wr => ∃ k : Nat, k ≤ s.size ∧ i = .int .i64 k ∧ fr = .int .i64 (rparts s k).2 ∧ wr.ownsRow w.heap.size 9 1 v (rparts s k).1.length (strL (rparts s k).1) ∧ Below w.heap.size w wr) (fun _ _ i _ => s.size - (intOf i).toNat)
 case atStart => exact ⟨0, Nat.zero_le _, rfl, rfl, World.ownsRow_nil _ _ _ _, Below.refl _ _⟩
 case round =>
  obtain ⟨k, hk, rfl, rfl, hown, hB⟩ := hrel; have HO := Lib.hid hown; have HB := Lib.hid hB; have hsz := hB.size; have hle := rparts_le s k; clear hown hB
  by_cases hlt : k < s.size
  ·have hb := bt_at s k hlt
   have hsn := rparts_succ s k; generalize hbk : bt s k = n at *; generalize hrk : rparts s k = lk at *; obtain ⟨l, f⟩ := lk; simp only at hle HO; replace hsn := Lib.hid hsn; clear hbk hrk
   have hfk : (f : Int) ≤ (k : Int) := by omega
   have hks : (k : Int) ≤ (s.size : Int) := by omega
   go_wp2_with (at_builtin; go_loud (refine append1 w.heap.size rfl _ _ _ 9 (.string ⟨#[]⟩) 1 16 rfl Tryd.underlying32 strsT rfl (by decide) _ _ _ [.string (s.extract f k)] rfl _ (by simp) rfl rfl (by simp [Value.oneCell']) (by exact HO.out) (by omega) (by omega) (by omega) ?_); intro v1 w1 hown1 hg1)
   ·have hn : n = 47 := by simp_all
    have hown2 : w1.ownsRow w.heap.size 9 1 v1 (l ++ [s.extract f k]).length (strL (l ++ [s.extract f k])) := by rw [strL_snoc]; simpa using hown1
    go_roundw
    case rel => exact ⟨k + 1, by omega, by go_num, by rw [hsn.out, if_pos hn]; go_num, by rw [hsn.out, if_pos hn]; exact hown2, HB.out.grown hg1 (by omega) (own_base HO.out)⟩
    case measure => simp [intOf]; omega
   ·have hn : ¬ n = 47 := by simp_all
    go_roundw
    case rel => exact ⟨k + 1, by omega, by go_num, by rw [hsn.out, if_neg hn], by rw [hsn.out, if_neg hn]; exact HO.out, HB.out⟩
    case measure => simp [intOf]; omega
  ·obtain rfl : k = s.size := by omega
   have hall := rparts_all s; generalize hrk : rparts s s.size = lk at *; obtain ⟨l, f⟩ := lk; simp only at hle HO hall
   have hf : (f : Int) ≤ (s.size : Int) := by omega
   replace hall := Lib.hid hall; clear hrk; go_wp2_with (at_builtin; go_loud (refine append1 w.heap.size rfl _ _ _ 9 (.string ⟨#[]⟩) 1 16 rfl Tryd.underlying32 strsT rfl (by decide) _ _ _ [.string (s.extract f s.size)] rfl _ (by simp) rfl rfl (by simp [Value.oneCell']) (by exact HO.out) (by omega) (by omega) (by omega) ?_); intro v1 w1 hown1 hg1)
   have hown2 : w1.ownsRow w.heap.size 9 1 v1 (l ++ [s.extract f s.size]).length (strL (l ++ [s.extract f s.size])) := by rw [strL_snoc]; simpa using hown1
   rw [hall.out] at hown2; obtain ⟨g, cap, rfl, _, _⟩ := hown2.form (by rw [partsB_len]; omega); go_ret
   exact ⟨⟨g, cap, rfl, hown2⟩, HB.out.grown hg1 (by omega) (own_base HO.out)⟩
theorem rvalid_any (s : ByteArray) (w : World) : Calls Tryd.prog 73 #[.string s] w fun e w' => e = .returned (.bool (validB s)) ∧ Below w.heap.size w w' := by
 by_cases h60 : s.size ≤ 60
 ·have P := Lib.hid (rparts_any s (by omega) w)
  have hle := partsB_le s
  have hxs : Hid (∀ x ∈ partsB s, x.size ≤ 4611686018427387904) := fun x hx => by have := partsB_size s x hx; omega
  have hfin : Hid (validB s = (partsB s).all partB) := by show _ = _; simp [validB, h60]
  generalize partsB s = l at *; go_enter Tryd.func73, Tryd.ntmps73; go_wp2_with (go_at_call 23; refine P.out.mono ?_; rintro e w1 ⟨⟨g, cap, rfl, hown⟩, hbl⟩; have hr := Lib.hid (RdS_own hown); clear hown; replace hbl := Lib.hid hbl)
  go_loop [4] (fun i => ∃ k : Nat, k ≤ l.length ∧ i = .int .i64 k ∧ Hid (∀ j, j < k → ∀ x, l[j]? = some x → partB x = true)) (fun i => l.length - (intOf i).toNat)
  case atStart => exact ⟨0, Nat.zero_le _, rfl, fun j hj => absurd hj (by omega)⟩
  case round =>
   obtain ⟨k, hk, rfl, hp⟩ := hrel
   by_cases hlt : k < l.length
   ·obtain ⟨x, hx⟩ : ∃ x, l[k]? = some x := ⟨_, List.getElem?_eq_getElem hlt⟩
    have hcell := hr.out k x hx; rw [Nat.zero_add] at hcell; have V := Lib.hid (rpart_any x (hxs.out x (List.mem_of_getElem? hx)) w1); replace hx := Lib.hid hx; go_wp2_with (go_at_call 47; refine V.out.mono ?_; rintro e w2 ⟨rfl, rfl⟩)
    ·have hf : partB x = false := by simp_all
     go_ret
     exact ⟨ret_bool (by rw [hfin.out, bad_at l k x hx.out hf]), hbl.out⟩
    ·have hf : partB x = true := by simp_all
     go_round
     case rel => exact ⟨k + 1, by omega, by go_num, fun j hj y hy => by
      by_cases e : j = k
      ·subst e
       rw [hx.out] at hy
       cases hy
       exact hf
      ·exact hp.out j (by omega) y hy⟩
     case measure => simp [intOf]; omega
   ·go_wp2
    go_ret
    exact ⟨ret_bool (by rw [hfin.out, badFrom_all l k hp.out (by omega)]), hbl.out⟩
 ·have hfin : Hid (validB s = false) := by show _ = _; simp [validB, h60]
  go_enter Tryd.func73, Tryd.ntmps73; go_wp2_with fail; go_ret
  exact ⟨ret_bool hfin.out.symm, Below.refl _ _⟩
def lastTo (s : ByteArray) : Nat → Int
 | 0 => -1
 | k + 1 => if bt s k = 47 then k else lastTo s k
theorem lastTo_succ (s : ByteArray) (k : Nat) : lastTo s (k + 1) = if bt s k = 47 then (k : Int) else lastTo s k := rfl
theorem lastTo_eq (s : ByteArray) (k : Nat) (hk : k ≤ s.size) : lastTo s k = Lib.lastIdx s 47 k := by
 induction k with
 | zero => rfl
 | succ k ih =>
  have e : ((s.data[k]!).toNat : Int) = bt s k := by
   rw [← bt_at s k hk, getElem!_pos s.data k hk]
   rfl
  rw [lastTo_succ, ih (by omega)]
  by_cases h : bt s k = 47
  ·rw [if_pos h, Lib.lastIdx_hit s 47 k (by rw [e]; exact h)]
  ·rw [if_neg h, Lib.lastIdx_miss s 47 k (by rw [e]; exact h)]
theorem lastTo_all (s : ByteArray) : lastTo s s.size = slash s := lastTo_eq s s.size (Nat.le_refl _)
end Go.Proofs.YtajplppeijmfpaaDoor.Nm

namespace Go.Proofs.YtajplppeijmfpaaDoor.Nm
open Go Go.RowKit
set_option linter.unusedVariables false
set_option linter.unusedSimpArgs false
set_option maxHeartbeats 400000
def jn (l : List ByteArray) : List UInt8 := Lib.join (l.map (·.data.toList)) [47]
theorem jn_cons2 (a b : ByteArray) (l : List ByteArray) : jn (a :: b :: l) = a.data.toList ++ 47 :: jn (b :: l) := by
 unfold jn; simp only [List.map_cons]; rw [Lib.join_cons, Lib.join_cons]; simp [Lib.joinTail]
theorem jn_one (a : ByteArray) : jn [a] = a.data.toList := by simp [jn, Lib.join_one]
end Go.Proofs.YtajplppeijmfpaaDoor.Nm

namespace Go.Proofs.YtajplppeijmfpaaDoor.Nm
open Go Go.RowKit
set_option linter.unusedVariables false
set_option linter.unusedSimpArgs false
set_option maxHeartbeats 400000
set_option maxRecDepth 10000
theorem toList_inj {x y : ByteArray} (h : x.toList = y.toList) : x = y := bytes_inj (by rw [← ByteArray.toList_eq, ← ByteArray.toList_eq, h])
end Go.Proofs.YtajplppeijmfpaaDoor.Nm

namespace Go.Proofs.YtajplppeijmfpaaDoor.Ty
open Go Go.RowKit Go.Proofs.YtajplppeijmfpaaDoor.Nm
set_option linter.unusedVariables false
set_option linter.unusedSimpArgs false
set_option maxHeartbeats 1000000
set_option maxRecDepth 10000
def place (L r : List UInt8) : Int := (L.length : Int) - (r.length : Int)
def rdNm (l : List UInt8) : List UInt8 :=
 match past l with
 | [] => []
 | x :: r => if x = 76 then (match behind r with | none => [] | some _ => upTo r) else []
def readF (L : List UInt8) (n : Nat) : Int × List UInt8 × Int :=
 ((opens (L.drop n) : Int), rdNm (L.drop n), match (rd (L.drop n)).rest with | none => -1 | some r => place L r)
end Go.Proofs.YtajplppeijmfpaaDoor.Ty

namespace Go.Proofs.YtajplppeijmfpaaDoor.Ty
open Go Go.RowKit Go.Proofs.YtajplppeijmfpaaDoor.Nm
set_option linter.unusedVariables false
set_option linter.unusedSimpArgs false
set_option maxHeartbeats 1000000
set_option maxRecDepth 10000
theorem rcheck_any (d : Int) (nm : List UInt8) (w : World) : Calls Tryd.prog 56 #[tyV d nm] w fun e w' => e = .returned (.int .i64 (chk d nm)) ∧ Below w.heap.size w w' := by
 have B0 := Lib.hid ((Below.refl w.heap.size w).alloc (Nat.le_refl _) (.cells #[.int .i64 d, .string (bs nm)] 41)); have V := Lib.hid (rvalid_any (bs nm) (w.alloc (.cells #[.int .i64 d, .string (bs nm)] 41)))
 have hne : nm ≠ [] → ¬ (bs nm).toList = [] ∧ (bs nm).toList.isEmpty = false := by
  intro h; rw [ByteArray.toList_eq, mk_toList]
  exact ⟨h, by cases nm with | nil => exact absurd rfl h | cons => rfl⟩
 have hc : chk d nm = if d < 0 ∨ 255 < d then 1 else if nm ≠ [] ∧ validB (bs nm) = false then 1 else 0 := rfl
 replace hc := Lib.hid hc
 by_cases hd : d < 0 ∨ 255 < d
 ·have h1 : chk d nm = 1 := by rw [hc.out, if_pos hd]
  rw [h1]; clear hne V; go_enter Tryd.func56, Tryd.ntmps56; rw [tyV]
  rcases hd with hd | hd
  all_goals
   go_wp2; go_ret
   exact ⟨rfl, B0.out⟩
 ·have hd1 : 0 ≤ d := by omega
  have hd2 : d ≤ 255 := by omega
  clear hd
  cases nm with
  | nil =>
   have h1 : chk d [] = 0 := by rw [hc.out, if_neg (by omega), if_neg (by simp)]
   rw [h1]; clear hne V hc; rw [tyV, bs_nil]; rw [bs_nil] at B0; go_enter Tryd.func56, Tryd.ntmps56; go_wp2; go_ret
   exact ⟨rfl, B0.out⟩
  | cons x r =>
   obtain ⟨n1, n2⟩ := hne (by simp)
   cases hv : validB (bs (x :: r))
   ·have h1 : chk d (x :: r) = 1 := by rw [hc.out, if_neg (by omega), if_pos ⟨by simp, hv⟩]
    rw [h1, tyV]; rw [hv] at V; clear hc hv hne; generalize bs (x :: r) = s at *; go_enter Tryd.func56, Tryd.ntmps56; go_wp2_with (go_at_call 73; refine V.out.mono ?_; rintro e w3 ⟨rfl, hb⟩; replace hb := Lib.hid hb); go_ret
    exact ⟨rfl, B0.out.trans (hb.out.mono (by simp))⟩
   ·have h1 : chk d (x :: r) = 0 := by rw [hc.out, if_neg (by omega), if_neg (by simp [hv])]
    rw [h1, tyV]; rw [hv] at V; clear hc hv hne; generalize bs (x :: r) = s at *; go_enter Tryd.func56, Tryd.ntmps56; go_wp2_with (go_at_call 73; refine V.out.mono ?_; rintro e w3 ⟨rfl, hb⟩; replace hb := Lib.hid hb); go_ret
    exact ⟨rfl, B0.out.trans (hb.out.mono (by simp))⟩
end Go.Proofs.YtajplppeijmfpaaDoor.Ty

namespace Go.Proofs.YtajplppeijmfpaaDoor.Ty
open Go Go.RowKit Go.Proofs.YtajplppeijmfpaaDoor.Nm
set_option linter.unusedVariables false
set_option linter.unusedSimpArgs false
set_option maxHeartbeats 1000000
set_option maxRecDepth 10000
def arrT (d : Int) (nm : List UInt8) : Int × List UInt8 × Int :=
 if chk d nm ≠ 0 then (0, [], 1) else if d = 255 then (0, [], 5) else (d + 1, nm, 0)
end Go.Proofs.YtajplppeijmfpaaDoor.Ty

namespace Go.Proofs.YtajplppeijmfpaaDoor.Ty
open Go Go.RowKit Go.Proofs.YtajplppeijmfpaaDoor.Nm
set_option linter.unusedVariables false
set_option linter.unusedSimpArgs false
set_option maxHeartbeats 1000000
set_option maxRecDepth 10000
def cmpT (d : Int) (nm : List UInt8) : Int × List UInt8 × Int :=
 if chk d nm ≠ 0 then (0, [], 1) else if d = 0 then (0, [], 6) else (d - 1, nm, 0)
end Go.Proofs.YtajplppeijmfpaaDoor.Ty

namespace Go.Proofs.YtajplppeijmfpaaDoor.Ty
open Go Go.RowKit Go.Proofs.YtajplppeijmfpaaDoor.Nm
set_option linter.unusedVariables false
set_option linter.unusedSimpArgs false
set_option maxHeartbeats 1000000
set_option maxRecDepth 10000
def eltT (d : Int) (nm : List UInt8) : Int × List UInt8 × Int :=
 if chk d nm ≠ 0 then (0, [], 1) else (0, nm, 0)
end Go.Proofs.YtajplppeijmfpaaDoor.Ty

namespace Go.Proofs.YtajplppeijmfpaaDoor.Ty
open Go Go.RowKit Go.Proofs.YtajplppeijmfpaaDoor.Nm
set_option linter.unusedVariables false
set_option linter.unusedSimpArgs false
set_option maxHeartbeats 1000000
set_option maxRecDepth 10000
def base (nm : List UInt8) : List UInt8 := if nm = [] then [73] else 76 :: (nm ++ [59])
def wr (d : Nat) (nm : List UInt8) : List UInt8 := List.replicate d 91 ++ base nm
theorem repeat91 (c : Nat) : Lib.repeatL [91] c = List.replicate c 91 := by
 induction c with
 | zero => rfl
 | succ c ih => rw [Lib.repeatL, ih, List.replicate_succ]; rfl
theorem repeat_any (c : Nat) (hc : c ≤ 255) (w : World) : Calls Tryd.prog 72 #[.string ⟨#[91]⟩, .int .i64 c] w fun e w' => e = .returned (.string (bs (List.replicate c 91))) ∧ Below w.heap.size w w' := by
 refine (Tryd.strings_Repeat ⟨#[91]⟩ c w (by omega) (by show 1 * c ≤ _; omega)).mono ?_; rintro e w1 ⟨rfl, hb⟩; refine ⟨?_, hb⟩
 have h : Lib.repeatL (⟨#[91]⟩ : ByteArray).data.toList c = List.replicate c 91 := by
  exact repeat91 c
 rw [h]; rfl
theorem written_any (d : Nat) (hd : d ≤ 255) (nm : List UInt8) (hnm : nm.length < 4294967281) (w : World) : Calls Tryd.prog 53 #[tyV d nm] w fun e w' => e = .returned (.string (bs (wr d nm))) ∧ Below w.heap.size w w' := by
 have R := Lib.hid (repeat_any d hd (w.alloc (.cells #[.int .i64 d, .string (bs nm)] 41))); have B0 := Lib.hid ((Below.refl w.heap.size w).alloc (Nat.le_refl _) (.cells #[.int .i64 d, .string (bs nm)] 41)); rw [tyV]
 have z1 : (bs (List.replicate d 91)).size = d := by rw [mk_size, List.length_replicate]
 have z2 := mk_size nm
 cases nm with
 | nil =>
  rw [bs_nil] at R B0 ⊢; go_enter Tryd.func53, Tryd.ntmps53; go_wp2_with (go_at_call 72; refine R.out.mono ?_; rintro e w3 ⟨rfl, hb⟩; replace hb := Lib.hid hb); go_ret; refine ⟨?_, B0.out.trans (hb.out.mono (by simp))⟩
  apply congrArg Ending.returned
  apply congrArg Value.string
  apply bytes_inj
  simp [wr, base, mk_toList]
 | cons x r =>
  simp only [List.length_cons] at z2 hnm
  have n1 : ¬ (bs (x :: r)).toList = [] := by rw [ByteArray.toList_eq, mk_toList]; simp
  have n2 : (bs (x :: r)).toList.isEmpty = false := by rw [ByteArray.toList_eq, mk_toList]; rfl
  go_enter Tryd.func53, Tryd.ntmps53; go_wp2_with (go_at_call 72; refine R.out.mono ?_; rintro e w3 ⟨rfl, hb⟩; replace hb := Lib.hid hb); go_ret; refine ⟨?_, B0.out.trans (hb.out.mono (by simp))⟩
  apply congrArg Ending.returned
  apply congrArg Value.string
  apply bytes_inj
  simp [wr, base, mk_toList]
end Go.Proofs.YtajplppeijmfpaaDoor.Ty

namespace Go.Proofs.YtajplppeijmfpaaDoor.Ty
open Go Go.RowKit Go.Proofs.YtajplppeijmfpaaDoor.Nm
set_option linter.unusedVariables false
set_option linter.unusedSimpArgs false
set_option maxHeartbeats 1000000
set_option maxRecDepth 10000
def textT (d : Int) (nm : List UInt8) : List UInt8 × Int := if chk d nm ≠ 0 then ([], 1) else (wr d.toNat nm, 0)
def refT (d : Int) (nm : List UInt8) : List UInt8 × Int :=
 if chk d nm ≠ 0 then ([], 1) else if d = 0 then (if nm = [] then ([], 2) else (nm, 0)) else (wr d.toNat nm, 0)
end Go.Proofs.YtajplppeijmfpaaDoor.Ty

namespace Go.Proofs.YtajplppeijmfpaaDoor.Pt
open Go Go.RowKit Go.Proofs.YtajplppeijmfpaaDoor.Nm Go.Proofs.YtajplppeijmfpaaDoor.Ty Go.Proofs.YtajplppeijmfpaaDoorW.PrintWords Go.Proofs.YtajplppeijmfpaaDoorW.PrintLast Go.Proofs.YtajplppeijmfpaaDoorW.PrintMore
set_option linter.unusedVariables false
set_option linter.unusedSimpArgs false
def arbiterref02_Parse.f (a0 : ByteArray) : Option (Int × ByteArray × Int) := some (tup3 (parseT a0.data.toList))
def arbiterref02_ParseRef.f (a0 : ByteArray) : Option (Int × ByteArray × Int) := some (tup3 (parseR a0.data.toList))
def types_ArrayOf.f (a0_0 : Int) (a0_1 : ByteArray) : Option (Int × ByteArray × Int) := some (tup3 (arrT a0_0 a0_1.data.toList))
def types_Component.f (a0_0 : Int) (a0_1 : ByteArray) : Option (Int × ByteArray × Int) := some (tup3 (cmpT a0_0 a0_1.data.toList))
def types_Element.f (a0_0 : Int) (a0_1 : ByteArray) : Option (Int × ByteArray × Int) := some (tup3 (eltT a0_0 a0_1.data.toList))
def arbiterref02_ArrayOf.f (a0_0 : Int) (a0_1 : ByteArray) : Option (Int × ByteArray × Int) := some (tup3 (arrT a0_0 a0_1.data.toList))
def arbiterref02_Component.f (a0_0 : Int) (a0_1 : ByteArray) : Option (Int × ByteArray × Int) := some (tup3 (cmpT a0_0 a0_1.data.toList))
def arbiterref02_Element.f (a0_0 : Int) (a0_1 : ByteArray) : Option (Int × ByteArray × Int) := some (tup3 (eltT a0_0 a0_1.data.toList))
def types_Text.f (a0_0 : Int) (a0_1 : ByteArray) : Option (ByteArray × Int) := some (tup2 (textT a0_0 a0_1.data.toList))
def types_RefText.f (a0_0 : Int) (a0_1 : ByteArray) : Option (ByteArray × Int) := some (tup2 (refT a0_0 a0_1.data.toList))
def arbiterref02_Check.f (a0_0 : Int) (a0_1 : ByteArray) : Option Int := some (chk a0_0 a0_1.data.toList)
theorem arbiterref02_Check.calls (a0_0 : Int) (a0_1 : ByteArray) (r : Int) (w : World) (h : arbiterref02_Check.f a0_0 a0_1 = some r) :
  Calls Tryd.prog 56 #[.agg #[.int .i64 a0_0, .string a0_1]] w fun e w' => e = .returned (.int .i64 r) ∧ Below w.heap.size w w' := by
 unfold arbiterref02_Check.f at h; obtain rfl := Option.some.inj h; have C := rcheck_any a0_0 a0_1.data.toList w; rw [tyV, mk_data] at C
 exact C
def arbiterref02_read.f (a0 : ByteArray) (a1 : Int) : Option (Int × ByteArray × Int) := if 0 ≤ a1 ∧ a1.toNat ≤ a0.size ∧ a0.size < 4294967281 then some (tup3 (readF a0.data.toList a1.toNat)) else none
end Go.Proofs.YtajplppeijmfpaaDoor.Pt

namespace Go.Proofs.YtajplppeijmfpaaDoor.Ty
open Go Go.RowKit Go.Shelf
set_option linter.unusedVariables false
set_option linter.unusedSimpArgs false
theorem bX : Builder.Extra Tryd.prog Tryd.lays169_ren := Tryd.Builder_Extra_169
set_option maxHeartbeats 1000000 in
set_option maxRecDepth 100000 in
theorem cc_used (b : Nat) (w : World) (h0 : w.cell? ⟨b, 0, none⟩ = some (.pointer (some ⟨b, 0, none⟩))) :
  Calls Tryd.prog 71 #[.pointer (some ⟨b, 0, none⟩)] w fun e w' => e = .returned (.tuple #[]) ∧ w' = w := by
 obtain ⟨j, hj, _⟩ := Option.map_eq_some_iff.1 bX.sizeBuilder; go_enter Tryd.func71, Tryd.ntmps71; go_wp2; rw [Lib.run_neq_ptr_same w _ Tryd.underlying64 hj]; go_wp2
 go_end0
 exact ⟨rfl, rfl⟩
set_option maxHeartbeats 1000000 in
set_option maxRecDepth 100000 in
theorem cc_fresh (b : Nat) (w : World) (h0 : w.cell? ⟨b, 0, none⟩ = some (.pointer none)) (hsh : w.shape? b = some (67, 2)) (hfz : w.frozen? ⟨b, 0, none⟩ = false) :
  Calls Tryd.prog 71 #[.pointer (some ⟨b, 0, none⟩)] w fun e w' => e = .returned (.tuple #[]) ∧ w' = w.setCell ⟨b, 0, none⟩ (.pointer (some ⟨b, 0, none⟩)) := by
 obtain ⟨j, hj, hjs⟩ := Option.map_eq_some_iff.1 bX.sizeBuilder; go_enter Tryd.func71, Tryd.ntmps71; go_wp2; rw [Lib.run_to_unsafe w ⟨b, 0, none⟩ Tryd.underlying64 Tryd.underlying108 hj (by rw [hjs]; decide) hsh (Nat.zero_lt_succ 1)]; simp only [Result.andThen]; rw [Oper.upon_value]; go_wp2; rw [run_callFunc_extern Tryd.func83 (by kernel_rfl) (by kernel_rfl) (by kernel_rfl) (e := Extern.AbiNoEscape.same) (by kernel_rfl)]; rw [Lib.run_noEscape]; simp only [Result.andThen]; rw [Oper.upon_value]; go_wp2; rw [Lib.run_from_unsafe w ⟨b, 0, none⟩ Tryd.underlying108 Tryd.underlying64 hj hsh bX.liesBuilder]; simp only [Result.andThen]; rw [Oper.upon_value]; go_wp2
 go_end0
 exact ⟨rfl, rfl⟩
theorem cc_any (B b : Nat) (bs : List Value) (w : World) (h : Lib.IsBuilder 67 5 B b bs w) :
  Calls Tryd.prog 71 #[.pointer (some ⟨b, 0, none⟩)] w fun e w' => e = .returned (.tuple #[]) ∧ (Lib.BuilderAt 67 5 B b (.pointer (some ⟨b, 0, none⟩)) bs w' ∧ Below B w w') := by
 rcases h with h | h
 ·refine (cc_fresh b w h.cell0 h.shape h.frozen0).mono ?_
  rintro e w' ⟨rfl, rfl⟩
  exact ⟨rfl, h.used _, (Below.refl B w).setCell (p := ⟨b, 0, none⟩) h.1 _⟩
 ·refine (cc_used b w h.cell0).mono ?_
  rintro e w' ⟨rfl, rfl⟩
  exact ⟨rfl, h, Below.refl B _⟩
set_option maxHeartbeats 2000000 in
set_option maxRecDepth 100000 in
theorem writeByte_any (B b : Nat) (bs : List Value) (c : Int) (w : World) (h : Lib.IsBuilder 67 5 B b bs w) (hlen : bs.length + 1 ≤ 140737488355328) (hBw : B ≤ w.heap.size) :
  Calls Tryd.prog 51 #[.pointer (some ⟨b, 0, none⟩), .int .u8 c] w fun e w' => e = .returned .nilIface ∧ (Lib.IsBuilder 67 5 B b (bs ++ [.int .u8 c]) w' ∧ Below B w w') := by
 obtain ⟨i0, hi, hz0, hz1, hz2⟩ := info_parts bX.infoByte; go_enter Tryd.func51, Tryd.ntmps51; go_wp2_with (go_at_call 71; refine (cc_any B b bs _ h).mono ?_); rintro e w1 ⟨rfl, h1, hb1⟩; obtain ⟨hB, v, hbk, hown, hne⟩ := h1
 have c0 : w1.cell? ⟨b, 0, none⟩ = some (.pointer (some ⟨b, 0, none⟩)) := by rw [Lib.cell_of_heap hbk]; rfl
 have c1 : w1.cell? ⟨b, 1, none⟩ = some v := by rw [Lib.cell_of_heap hbk]; rfl
 go_wp2_with (at_builtin; refine wpList_append_own _ rfl _ _ 65 rfl B 5 i0 (.int .u8 0) 1 1 Tryd.underlying65 hi hz0 hz1 hz2 rfl (by decide) _ _ _ rfl (hown.alloc _) ⟨w1.heap.size, 0, none⟩ 1 1 [.int .u8 c] rfl rfl ?c1 ?c2 ?c3 ?c4 ?c5 ?_)
 case c1 =>
  intro j u hj
  match j, hj with
  | 0, hj => simp at hj; subst hj; simp [Addr.add]
 case c2 => intro u hu; simp at hu; subst hu; rfl
 case c3 => unfold maxLen; omega
 case c4 => omega
 case c5 => have := hb1.size; simp; omega
 intro v' w2 hown' hgrow _; have hlt : b < w1.heap.size := (Array.getElem?_eq_some_iff.1 hbk).1
 have hb2 : w2.heap[b]? = some (.cells #[.pointer (some ⟨b, 0, none⟩), v] 67 (0, 0)) := by
  rw [hgrow.block b (by simp; omega) (fun e => hne e.symm), Lib.alloc_old w1 _ b hlt]
  exact hbk
 have d0 : w2.cell? ⟨b, 0, none⟩ = some (.pointer (some ⟨b, 0, none⟩)) := by rw [Lib.cell_of_heap hb2]; rfl
 have d1 : w2.cell? ⟨b, 1, none⟩ = some v := by rw [Lib.cell_of_heap hb2]; rfl
 have f1 : w2.frozen? ⟨b, 1, none⟩ = false := Lib.frozen_of_heap hb2 1
 obtain ⟨g, cap, rfl⟩ : ∃ g cap, v' = .slice (some ⟨g, 0, none⟩) (bs.length + 1) cap := by
  rcases hown'.2 with ⟨_, h0⟩ | ⟨g, cap, cur, hv, _⟩
  ·omega
  ·exact ⟨g, cap, hv⟩
 go_wp2; go_ret; refine ⟨rfl, .inr ?_, ?_⟩
 ·exact Lib.BuilderAt.put (T := 67) (e := 5) hB hb2 (bs' := bs ++ [.int .u8 c]) (by simpa using hown') bX.neB5
 ·exact ((hb1.alloc (by have := hb1.size; omega) _).grown hgrow (by have := hb1.size; simp; omega) (fun k hk => (hown.lt k hk).1)).setCell (p := ⟨b, 1, none⟩) hB _
set_option maxHeartbeats 2000000 in
set_option maxRecDepth 100000 in
theorem writeString_any (B b : Nat) (bs : List Value) (s : ByteArray) (w : World) (h : Lib.IsBuilder 67 5 B b bs w) (hlen : bs.length + s.size ≤ 140737488355328) (hBw : B ≤ w.heap.size) :
  Calls Tryd.prog 52 #[.pointer (some ⟨b, 0, none⟩), .string s] w fun e w' => e = .returned (.tuple #[.int .i64 s.size, .nilIface]) ∧ (Lib.IsBuilder 67 5 B b (bs ++ Lib.strCells s) w' ∧ Below B w w') := by
 obtain ⟨i0, hi, hz0, hz1, hz2⟩ := info_parts bX.infoByte; go_enter Tryd.func52, Tryd.ntmps52; go_wp2_with (go_at_call 71; refine (cc_any B b bs _ h).mono ?_); rintro e w1 ⟨rfl, h1, hb1⟩; obtain ⟨hB, v, hbk, hown, hne⟩ := h1
 have c0 : w1.cell? ⟨b, 0, none⟩ = some (.pointer (some ⟨b, 0, none⟩)) := by rw [Lib.cell_of_heap hbk]; rfl
 have c1 : w1.cell? ⟨b, 1, none⟩ = some v := by rw [Lib.cell_of_heap hbk]; rfl
 go_wp2_with (at_builtin; refine Lib.wpList_append_own_string _ rfl _ _ 65 9 rfl B 5 i0 Tryd.underlying65 Tryd.underlying9 hi hz0 hz1 hz2 _ _ _ rfl hown s rfl ?c3 ?c4 ?c5 ?_)
 case c3 => unfold maxLen; omega
 case c4 => omega
 case c5 => have := hb1.size; omega
 intro v' w2 hown' hgrow _; have hlt : b < w1.heap.size := (Array.getElem?_eq_some_iff.1 hbk).1
 have hb2 : w2.heap[b]? = some (.cells #[.pointer (some ⟨b, 0, none⟩), v] 67 (0, 0)) := by
  rw [hgrow.block b hlt (fun e => hne e.symm)]
  exact hbk
 have d0 : w2.cell? ⟨b, 0, none⟩ = some (.pointer (some ⟨b, 0, none⟩)) := by rw [Lib.cell_of_heap hb2]; rfl
 have d1 : w2.cell? ⟨b, 1, none⟩ = some v := by rw [Lib.cell_of_heap hb2]; rfl
 have f1 : w2.frozen? ⟨b, 1, none⟩ = false := Lib.frozen_of_heap hb2 1
 obtain ⟨ao, n', cap, rfl⟩ : ∃ ao n' cap, v' = .slice ao n' cap := by
  rcases hown'.2 with ⟨hv, _⟩ | ⟨g, cap, cur, hv, _⟩
  ·exact ⟨_, _, _, hv⟩
  ·exact ⟨_, _, _, hv⟩
 go_wp2; go_ret2; refine ⟨rfl, .inr ?_, ?_⟩
 ·exact Lib.BuilderAt.put (T := 67) (e := 5) hB hb2 (bs' := bs ++ Lib.strCells s) (by simpa [Lib.strCells_length] using hown') bX.neB5
 ·exact (hb1.grown hgrow (by have := hb1.size; omega) (fun k hk => (hown.lt k hk).1)).setCell (p := ⟨b, 1, none⟩) hB _
end Go.Proofs.YtajplppeijmfpaaDoor.Ty

namespace Go.Proofs.YtajplppeijmfpaaDoor.Nm
open Go Go.RowKit
set_option linter.unusedVariables false
set_option linter.unusedSimpArgs false
theorem rparts_snd (s : ByteArray) (k : Nat) : ((rparts s k).2 : Int) = lastTo s k + 1 := by
 induction k with
 | zero => rfl
 | succ k ih =>
  rw [rparts_succ, lastTo_succ]
  by_cases h : bt s k = 47
  ·rw [if_pos h, if_pos h]; rfl
  ·rw [if_neg h, if_neg h, ih]
def front (s : ByteArray) : List ByteArray := (rparts s s.size).1
theorem simple_eq (s : ByteArray) : simpleB s = s.extract (rparts s s.size).2 s.size := by
 have := rparts_snd s s.size; rw [lastTo_all] at this; unfold simpleB; rw [show (slash s + 1).toNat = (rparts s s.size).2 by omega]
theorem parts_front (s : ByteArray) : partsB s = front s ++ [simpleB s] := by
 rw [← rparts_all, simple_eq]
 rfl
theorem jn_cutAt (l : List UInt8) : ∀ m : List ByteArray, m.map (·.data.toList) = cutAt 47 l → jn m = l := by
 induction l with
 | nil =>
  intro m h
  cases m with
  | nil => simp [cutAt] at h
  | cons a m =>
   simp only [cutAt, List.map_cons, List.cons.injEq, List.map_eq_nil_iff] at h; obtain ⟨h1, rfl⟩ := h; rw [jn_one, h1]
 | cons b r ih =>
  intro m h; unfold cutAt at h
  cases m with
  | nil =>
   split at h
   ·simp at h
   ·split at h <;> simp at h
  | cons a m =>
   by_cases hb : b = 47
   ·rw [if_pos hb] at h
    simp only [List.map_cons, List.cons.injEq] at h; obtain ⟨h1, h2⟩ := h
    cases m with
    | nil => exact absurd h2.symm (cutAt_ne 47 r)
    | cons c m => rw [jn_cons2, h1, ih _ h2, hb]; rfl
   ·rw [if_neg hb] at h
    cases hr : cutAt 47 r with
    | nil => exact absurd hr (cutAt_ne 47 r)
    | cons p ps =>
     rw [hr] at h; simp only [List.map_cons, List.cons.injEq] at h; obtain ⟨h1, h2⟩ := h; have := ih (⟨p.toArray⟩ :: m) (by rw [hr]; simp [h2])
     cases m with
     | nil => rw [jn_one] at this ⊢; rw [h1, ← this]
     | cons c m => rw [jn_cons2] at this ⊢; rw [h1, ← this]; rfl
theorem jn_parts (s : ByteArray) : jn (partsB s) = s.data.toList := jn_cutAt _ _ (partsB_data s)
theorem part_bytes (s : ByteArray) (h : partB s = true) : 1 ≤ s.size ∧ ∀ b ∈ s.data.toList, letB b.toNat false = true := by
 simp only [partB, Bool.and_eq_true, isEmpty_size, Bool.not_eq_true', decide_eq_false_iff_not, lets, List.all_eq_true, List.mem_range] at h; refine ⟨by omega, fun b hb => ?_⟩; obtain ⟨k, hk, e⟩ := List.mem_iff_getElem.1 hb; have h1 := h.1 k (by rw [Array.length_toList] at hk; exact hk)
 have h2 : bt s k = (b.toNat : Int) := by simp only [bt, List.getD_eq_getElem?_getD, List.getElem?_eq_getElem hk, Option.getD_some, e]
 rw [h2] at h1
 cases hz : ((k : Int) == 0)
 ·rwa [hz] at h1
 ·rw [hz] at h1; exact letB_any _ _ h1
theorem mem_jn (l : List ByteArray) (b : UInt8) (h : b ∈ jn l) : b = 47 ∨ ∃ x ∈ l, b ∈ x.data.toList := by
 induction l with
 | nil => simp [jn, Lib.join_nil] at h
 | cons a l ih =>
  cases l with
  | nil => rw [jn_one] at h; exact .inr ⟨a, by simp, h⟩
  | cons c l =>
   rw [jn_cons2] at h
   rcases List.mem_append.1 h with h | h
   ·exact .inr ⟨a, by simp, h⟩
   ·rcases List.mem_cons.1 h with h | h
    ·exact .inl h
    ·rcases ih h with h | ⟨x, hx, h⟩
     ·exact .inl h
     ·exact .inr ⟨x, by simp [hx], h⟩
theorem valid_bytes (s : ByteArray) (h : validB s = true) (b : UInt8) (hb : b ∈ s.data.toList) : b = 47 ∨ letB b.toNat false = true := by
 simp only [validB, Bool.and_eq_true, List.all_eq_true] at h; rw [← jn_parts] at hb
 rcases mem_jn _ _ hb with h1 | ⟨x, hx, h1⟩
 ·exact .inl h1
 ·exact .inr ((part_bytes x (h.2 x hx)).2 b h1)
theorem valid_size (s : ByteArray) (h : validB s = true) : 1 ≤ s.size ∧ s.size ≤ 60 := by
 simp only [validB, Bool.and_eq_true, List.all_eq_true, decide_eq_true_eq] at h
 have hm : simpleB s ∈ partsB s := by rw [parts_front]; simp
 have h1 := (part_bytes _ (h.2 _ hm)).1; have h2 := partsB_size s _ hm
 omega
end Go.Proofs.YtajplppeijmfpaaDoor.Nm

namespace Go.Proofs.YtajplppeijmfpaaDoor.Pt
open Go Go.RowKit Go.Proofs.YtajplppeijmfpaaDoor.Nm Go.Proofs.YtajplppeijmfpaaDoor.Ty Go.Proofs.YtajplppeijmfpaaDoorW.PrintWords Go.Proofs.YtajplppeijmfpaaDoorW.PrintLast Go.Proofs.YtajplppeijmfpaaDoorW.PrintMore
set_option linter.unusedVariables false
set_option linter.unusedSimpArgs false
def descCat (l : List S41) : List UInt8 := l.flatMap fun t => wr t.f0.toNat t.f1.data.toList
def descBody (l : List S41) (b : Bool) (d : Int) (nm : List UInt8) : List UInt8 := 40 :: (descCat l ++ 41 :: (if b = true then [86] else wr d.toNat nm))
def descBad (l : List S41) : Bool := l.any fun t => chk t.f0 t.f1.data.toList != 0
def descT (l : List S41) (b : Bool) (d : Int) (nm : List UInt8) : List UInt8 × Int :=
 if descBad l = true then ([], 1)
 else if chk d nm ≠ 0 ∨ (b = true ∧ ¬ (d = 0 ∧ nm = [])) then ([], 1)
 else if 20 < l.length then ([], 5)
 else if 2000 < (descBody l b d nm).length then ([], 5) else (descBody l b d nm, 0)
def types_DescText.f (l : List S41) (b : Bool) (d : Int) (nm : ByteArray) : Option (ByteArray × Int) := if l.length ≤ 9223372036854775807 then some (tup2 (descT l b d nm.data.toList)) else none
theorem isB_below {T e : TypeId} {B b : Nat} {bs : List Value} {w w1 : World} (h : Lib.IsBuilder T e B b bs w) (hb : Below w.heap.size w w1) : Lib.IsBuilder T e B b bs w1 := by
 have key : ∀ p, Lib.BuilderAt T e B b p bs w → Lib.BuilderAt T e B b p bs w1 := by
  rintro p ⟨h1, v, h2, h3, h4⟩
  exact ⟨h1, v, (hb.block b (Array.getElem?_eq_some_iff.1 h2).1).trans h2, h3.kept (row := none) ⟨hb.os, hb.tape, hb.output, hb.size, fun k hk _ => hb.block k hk⟩ (by by_cases hv : v.ownBlock = none <;> simp [hv]), h4⟩
 exact h.elim (fun x => .inl (key _ x)) (fun x => .inr (key _ x))
theorem bc_append (l m : List UInt8) : Lib.byteCells l ++ Lib.strCells (bs m) = Lib.byteCells (l ++ m) := by
 rw [Lib.strCells_eq]; simp [Lib.byteCells, bs]
theorem bc_one (l : List UInt8) (c : UInt8) : Lib.byteCells l ++ [.int .u8 c.toNat] = Lib.byteCells (l ++ [c]) := by simp [Lib.byteCells]
theorem chk_bounds {d : Int} {nm : List UInt8} (h : chk d nm = 0) : 0 ≤ d ∧ d ≤ 255 ∧ nm.length ≤ 60 := by
 unfold chk at h
 split at h
 ·exact absurd h (by decide)
 ·rename_i hd
  split at h
  ·exact absurd h (by decide)
  ·rename_i hn
   refine ⟨by omega, by omega, ?_⟩
   by_cases h0 : nm = []
   ·subst h0; simp
   ·have hv : validB (bs nm) = true := by
     cases hv : validB (bs nm)
     ·exact absurd ⟨h0, hv⟩ hn
     ·rfl
    have := (valid_size _ hv).2; rw [mk_size] at this
    exact this
theorem wr_len {d : Int} {nm : List UInt8} (h : chk d nm = 0) : (wr d.toNat nm).length ≤ 320 := by
 obtain ⟨h0, h1, h2⟩ := chk_bounds h; unfold wr base
 split <;> simp <;> omega
theorem descCat_len (l : List S41) (h : descBad l = false) : (descCat l).length ≤ 320 * l.length := by
 induction l with
 | nil => simp [descCat]
 | cons t l ih =>
  simp only [descBad, List.any_cons, Bool.or_eq_false_iff, bne_eq_false_iff_eq] at h; have h1 := wr_len h.1; have h2 := ih h.2; simp only [descCat, List.flatMap_cons, List.length_append, List.length_cons] at h2 ⊢
  omega
theorem bad_take (l : List S41) (j : Nat) (hj : j < l.length) : descBad (l.take (j + 1)) = (descBad (l.take j) || (chk (rd_T41 l (j : Int)).f0 (rd_T41 l (j : Int)).f1.data.toList != 0)) := by
 have h : rd_T41 l (j : Int) = l[j] := by simp [rd_T41, hj]
 rw [h, List.take_succ_eq_append_getElem hj]; simp only [descBad, List.any_append, List.any_cons, List.any_nil, Bool.or_false]
theorem bad_at (l : List S41) (j : Nat) (hj : j < l.length) (h : descBad l = false) : chk (rd_T41 l (j : Int)).f0 (rd_T41 l (j : Int)).f1.data.toList = 0 := by
 have h1 : rd_T41 l (j : Int) = l[j] := by simp [rd_T41, hj]
 rw [h1]; simp only [descBad, List.any_eq_false] at h; have := h l[j] (List.getElem_mem hj)
 simpa using this
theorem cat_take (l : List S41) (j : Nat) (hj : j < l.length) : descCat (l.take (j + 1)) = descCat (l.take j) ++ wr (rd_T41 l (j : Int)).f0.toNat (rd_T41 l (j : Int)).f1.data.toList := by
 have h : rd_T41 l (j : Int) = l[j] := by simp [rd_T41, hj]
 rw [h, List.take_succ_eq_append_getElem hj]; simp only [descCat, List.flatMap_append, List.flatMap_cons, List.flatMap_nil, List.append_nil]
theorem bad_more (l : List S41) (j : Nat) (hj : j < l.length) (h : chk (rd_T41 l (j : Int)).f0 (rd_T41 l (j : Int)).f1.data.toList ≠ 0) : descBad l = true := by
 cases hb : descBad l
 ·exact absurd (bad_at l j hj hb) h
 ·rfl
theorem bad_part {l : List S41} (h : descBad l = false) (j : Nat) : descBad (l.take j) = false := by
 simp only [descBad, List.any_eq_false] at h ⊢
 exact fun x hx => h x (List.mem_of_mem_take hx)
set_option maxRecDepth 100000 in
set_option maxHeartbeats 2000000 in
theorem types_DescText.calls (A : Option Addr) (c : Nat) (l : List S41) (b : Bool) (d : Int) (nm : ByteArray) (r1 : ByteArray) (r2 : Int) (w : World) (hr : Kd.C k41 w A l.length l) (hc : l.length ≤ c) (h : types_DescText.f l b d nm = some (r1, r2)) :
  Calls Tryd.prog 25 #[.agg #[.slice A l.length c, .bool b, .int .i64 d, .string nm]] w fun e w' => e = .returned (.tuple #[.string r1, .int .i64 r2]) ∧ Below w.heap.size w w' := by
 have hlm : l.length ≤ 9223372036854775807 := by
  unfold types_DescText.f at h
  split at h
  ·assumption
  ·cases h
 unfold types_DescText.f at h; rw [if_pos hlm] at h; obtain ⟨rfl, rfl⟩ := some_inj2 h; clear h; have HR := Lib.hid hr; clear hr
 obtain ⟨W0, hW0⟩ : ∃ W0, (w.alloc (.cells #[.slice A l.length c, .bool b, .int .i64 d, .string nm] 43)).alloc (.cells #[.pointer none, .slice none 0 0] 67) = W0 := ⟨_, rfl⟩
 have z0 : W0.heap.size = w.heap.size + 2 := by rw [← hW0]; simp
 have hB0 : Below w.heap.size w W0 := by
  rw [← hW0]
  exact ((Below.refl _ w).alloc (Nat.le_refl _) _).alloc (by simp) _
 have b0 : W0.heap[w.heap.size]? = some (.cells #[.slice A l.length c, .bool b, .int .i64 d, .string nm] 43 (0, 0)) := by
  rw [← hW0]
  exact (Below.heap_alloc _ _ _ (by simp)).trans (heap_alloc_new w _)
 have b1 : W0.heap[w.heap.size + 1]? = some (.cells #[.pointer none, .slice none 0 0] 67 (0, 0)) := by
  rw [← hW0]; have := heap_alloc_new (w.alloc (.cells #[.slice A l.length c, .bool b, .int .i64 d, .string nm] 43)) (.cells #[.pointer none, .slice none 0 0] 67)
  rwa [World.size_alloc] at this
 have hI0 : Lib.IsBuilder 67 5 (w.heap.size + 1) (w.heap.size + 1) [] W0 := .inl ⟨by omega, .slice none 0 0, b1, World.ownsRow_nil _ _ _ _, by simp [Value.ownBlock]⟩; have HI0 := Lib.hid hI0; have HB0 := Lib.hid hB0; have Z0 := Lib.hid b0; clear hI0 hB0 b0 b1; have q0 := (blk_cell Z0.out 0).trans rfl; go_enter Tryd.func25, Tryd.ntmps25
 have q0' : ((w.alloc (.cells #[.slice A l.length c, .bool b, .int .i64 d, .string nm] 43)).alloc (.cells #[.pointer none, .slice none 0 0] 67)).cell? ⟨w.heap.size, 0, none⟩ = some (.slice A l.length c) := by rw [hW0]; exact q0
 go_wp2
 try rw [hW0]
 clear hW0 q0'
 go_loopw [12] (fun i wr => ∃ j : Nat, j ≤ l.length ∧ i = .int .i64 j ∧ Hid (Below W0.heap.size W0 wr) ∧ Hid (descBad (l.take j) = false)) (fun i _ => l.length - (intOf i).toNat)
 case atStart => exact ⟨0, Nat.zero_le _, rfl, Lib.hid (Below.refl _ _), Lib.hid (by simp [descBad])⟩
 case round =>
  obtain ⟨j, hj, rfl, HB, HD⟩ := hrel; clear q0
  by_cases hlt : j < l.length
  ·obtain ⟨ad, rfl, x0, x1⟩ := at_T41 (Kd.C_below HR.out (HB0.out.trans (HB.out.mono HB0.out.size))) (j : Int) (by omega) (by omega)
   rw [Int.toNat_natCast] at x0 x1; have hbt := bad_take l j hlt; have hbm := bad_more l j hlt; generalize rd_T41 l (j : Int) = x at *; obtain ⟨xd, xn⟩ := x; simp only at x0 x1 hbt hbm; have CK := Lib.hid (fun W => check_any xd xn.data.toList W trivial); rw [tyV, mk_data] at CK; generalize chk xd xn.data.toList = ck at *; rw [HD.out, Bool.false_or] at hbt; replace hbt := Lib.hid hbt; replace hbm := Lib.hid hbm; go_wp2_with (go_at_call 50; refine (CK.out _).mono ?_; rintro e w2 ⟨rfl, hb2⟩)
   ·rename_i hck
    have hbad := hbm.out (by simpa using hck); go_ret2; refine ⟨by rw [descT, if_pos hbad]; rfl, ?_⟩
    exact (HB0.out.trans (HB.out.mono HB0.out.size)).trans ((((Below.refl _ wr).alloc (Nat.le_refl _) _).trans (hb2.mono (by simp))).mono (Nat.le_trans HB0.out.size HB.out.size))
   ·rename_i hck
    have hck : ck = 0 := by simpa using hck
    refine ⟨⟨j + 1, by omega, by go_num, Lib.hid (HB.out.trans ((((Below.refl _ wr).alloc (Nat.le_refl _) _).trans (hb2.mono (by simp))).mono HB.out.size)), Lib.hid (by rw [hbt.out, hck]; rfl)⟩, by simp [intOf]; omega⟩
  ·obtain rfl : j = l.length := by omega
   rw [List.take_length] at HD; have Z1 := blk_below Z0.out HB.out; have q0 := (blk_cell Z1 0).trans rfl; have q1 := (blk_cell Z1 1).trans rfl; have q2 := (blk_cell Z1 2).trans rfl; have q3 := (blk_cell Z1 3).trans rfl; have CK := Lib.hid (fun W => check_any d nm.data.toList W trivial); rw [tyV, mk_data] at CK; replace Z1 := Lib.hid Z1
   by_cases hc0 : chk d nm.data.toList = 0
   ·rw [hc0] at CK
    obtain ⟨k0, k1, k2⟩ := chk_bounds hc0; replace hc0 := Lib.hid hc0
    have hgood0 : ¬ (chk d nm.data.toList ≠ 0 ∨ (b = true ∧ ¬ (d = 0 ∧ nm.data.toList = []))) ∨ (b = true ∧ ¬ (d = 0 ∧ nm.data.toList = [])) := by
     by_cases h : b = true ∧ ¬ (d = 0 ∧ nm.data.toList = [])
     ·exact .inr h
     ·exact .inl (fun e => e.elim (fun e => e hc0.out) h)
    rcases hgood0 with hg0 | hg0
    ·have hgood := Lib.hid hg0
     cases b
     ·go_upto_region 10 with (go_at_call 50; refine (CK.out _).mono ?_; clear CK; rintro e w2 ⟨rfl, hb2⟩; have y0 := bl_cell hb2 q0; have y1 := bl_cell hb2 q1; have y2 := bl_cell hb2 q2; have y3 := bl_cell hb2 q3)
      clear hg0 q0 q1 q2 q3 y1 y2 y3
      by_cases h20 : 20 < l.length
      ·have hfin : descT l false d nm.data.toList = ([], 5) := by rw [descT, if_neg (by rw [HD.out]; decide), if_neg (by simp [hc0.out]), if_pos h20]
       replace hfin := Lib.hid hfin; go_wp2; go_ret2; refine ⟨by rw [hfin.out]; rfl, ?_⟩
       exact (HB0.out.trans (HB.out.mono HB0.out.size)).trans (hb2.mono (Nat.le_trans HB0.out.size HB.out.size))
      ·have hcl := descCat_len l HD.out
       have B2 := Lib.hid (HB.out.trans (hb2.mono HB.out.size))
       have hsz1 : w.heap.size + 1 ≤ W0.heap.size := by omega
       have I2 := isB_below HI0.out B2.out; have WB := Lib.hid (writeByte_any (w.heap.size + 1) (w.heap.size + 1) [] 40 w2 I2 (by simp) (by have := B2.out.size; omega)); clear I2; go_wp2_with (go_at_call 51; refine WB.out.mono ?_; clear WB; rintro e w5 ⟨rfl, hi5, hb5⟩; have B5 : Hid (Below (w.heap.size + 1) W0 w5) := (B2.out.mono hsz1).trans hb5; have Z5 := Lib.hid ((B5.out.block w.heap.size (by omega)).trans Z0.out); have q5 := (blk_cell Z5.out 0).trans rfl)
       go_loopw [42] (fun i wx => ∃ j : Nat, j ≤ l.length ∧ i = .int .i64 j ∧ Hid (Below (w.heap.size + 1) W0 wx) ∧ Hid (Lib.IsBuilder 67 5 (w.heap.size + 1) (w.heap.size + 1) (Lib.byteCells (40 :: descCat (l.take j))) wx)) (fun i _ => l.length - (intOf i).toNat)
       case atStart => exact ⟨0, Nat.zero_le _, rfl, B5, Lib.hid hi5⟩
       case round =>
        clear q5 hi5 B5 Z5; obtain ⟨j, hj, rfl, BX, IX⟩ := hrel
        by_cases hlt : j < l.length
        ·have hBX : Below w.heap.size w wr := HB0.out.trans (BX.out.mono (by omega))
         obtain ⟨ad, rfl, x0, x1⟩ := at_T41 (Kd.C_below HR.out hBX) (j : Int) (by omega) (by omega); rw [Int.toNat_natCast] at x0 x1; have hck := bad_at l j hlt HD.out; have hct := cat_take l j hlt; have hcl2 := descCat_len (l.take j) (bad_part HD.out j); rw [List.length_take] at hcl2; generalize rd_T41 l (j : Int) = x at *; obtain ⟨xd, xn⟩ := x; simp only at x0 x1 hck hct; obtain ⟨k0, k1, k2⟩ := chk_bounds hck; have hwl := wr_len hck; have WR := written_any xd.toNat (by omega) xn.data.toList (by omega); rw [tyV, mk_data, show ((xd.toNat : Nat) : Int) = xd by omega] at WR; replace WR := Lib.hid WR; replace hct := Lib.hid hct
         go_wp2_with (first
          | (go_at_call 53; refine (WR.out _).mono ?_; clear WR; rintro e w6 ⟨rfl, hb6⟩; have hal := ((Below.refl wr.heap.size wr).alloc (Nat.le_refl _) (.cells #[.int .i64 xd, .string xn] 41)).trans (hb6.mono (by simp)); have B6 := Lib.hid (BX.out.trans (hal.mono (Nat.le_trans hsz1 BX.out.size))); have I6 := isB_below IX.out hal; have WS := Lib.hid (writeString_any (w.heap.size + 1) (w.heap.size + 1) (Lib.byteCells (40 :: descCat (l.take j))) (bs (Ty.wr xd.toNat xn.data.toList)) w6 I6 (by rw [Lib.byteCells_length, mk_size]; simp; omega) (by have := B6.out.size; omega)))
          | (go_at_call 52; refine WS.out.mono ?_; clear WS; rintro e w7 ⟨rfl, hi7, hb7⟩))
         rw [bc_append] at hi7
         exact ⟨⟨j + 1, by omega, by go_num, B6.out.trans hb7, by rw [hct.out]; exact hi7⟩, by simp [intOf]; omega⟩
        ·obtain rfl : j = l.length := by omega
         rw [List.take_length] at IX; have WB := Lib.hid (writeByte_any (w.heap.size + 1) (w.heap.size + 1) (Lib.byteCells (40 :: descCat l)) 41 wr IX.out (by rw [Lib.byteCells_length]; simp; omega) (by have := BX.out.size; omega)); go_wp2_with (go_at_call 51; refine WB.out.mono ?_; clear WB; rintro e w9 ⟨rfl, hi9, hb9⟩; have B9 : Hid (Below (w.heap.size + 1) W0 w9) := BX.out.trans hb9; have Z9 := Lib.hid ((B9.out.block w.heap.size (by omega)).trans Z0.out); have q1 := (blk_cell Z9.out 1).trans rfl; have q2 := (blk_cell Z9.out 2).trans rfl; have q3 := (blk_cell Z9.out 3).trans rfl); have e9 : Lib.byteCells (40 :: descCat l) ++ [.int .u8 41] = Lib.byteCells (40 :: (descCat l ++ [41])) := bc_one (40 :: descCat l) 41; rw [e9] at hi9; have I9 := Lib.hid hi9; clear hi9 e9; have WR := written_any d.toNat (by omega) nm.data.toList (by omega); rw [tyV, mk_data, show ((d.toNat : Nat) : Int) = d by omega] at WR; replace WR := Lib.hid WR; have hwl := wr_len hc0.out
         go_wp2_with (first
          | (go_at_call 53; go_loud (refine (WR.out _).mono ?_); clear WR; rintro e w10 ⟨rfl, hb10⟩; have B10 : Hid (Below (w.heap.size + 1) W0 w10) := B9.out.trans (hb10.mono (Nat.le_trans hsz1 B9.out.size)); have I10 := Lib.hid (isB_below I9.out hb10); have hz10 := hb10.size; have WS := Lib.hid (writeString_any (w.heap.size + 1) (w.heap.size + 1) (Lib.byteCells (40 :: (descCat l ++ [41]))) (bs (Ty.wr d.toNat nm.data.toList)) w10 I10.out (by rw [Lib.byteCells_length, mk_size]; simp; omega) (by have := B9.out.size; omega)))
          | (go_at_call 52; refine WS.out.mono ?_; clear WS; rintro e w11 ⟨rfl, hi11, hb11⟩))
         replace B9 := B10
         have e11 : Lib.byteCells (40 :: (descCat l ++ [41])) ++ Lib.strCells (bs (Ty.wr d.toNat nm.data.toList)) = Lib.byteCells (descBody l false d nm.data.toList) := by
          rw [bc_append]; simp [descBody]
         rw [e11] at hi11; have I11 := Lib.hid hi11; have B11 := Lib.hid (B9.out.trans hb11); clear e11 hi11 hb11; have LN := Tryd.Builder_Len (w.heap.size + 1) (w.heap.size + 1) _ w11 I11.out; rw [Lib.byteCells_length] at LN; have ST := Tryd.Builder_String (w.heap.size + 1) (w.heap.size + 1) (descBody l false d nm.data.toList) w11 I11.out (by simp [descBody])
         by_cases h2k : 2000 < (descBody l false d nm.data.toList).length
         ·have hfin : descT l false d nm.data.toList = ([], 5) := by rw [descT, if_neg (by rw [HD.out]; decide), if_neg (by simp [hc0.out]), if_neg h20, if_pos h2k]
          clear ST; generalize descBody l false d nm.data.toList = body at *; replace hfin := Lib.hid hfin; go_wp2_with (go_at_call 54; refine LN.mono ?_; clear LN; rintro e w12 ⟨rfl, rfl⟩); go_ret2; refine ⟨by rw [hfin.out]; rfl, ?_⟩
          exact HB0.out.trans (B11.out.mono (by omega))
         ·have hfin : descT l false d nm.data.toList = (descBody l false d nm.data.toList, 0) := by rw [descT, if_neg (by rw [HD.out]; decide), if_neg (by simp [hc0.out]), if_neg h20, if_neg h2k]
          generalize descBody l false d nm.data.toList = body at *; replace hfin := Lib.hid hfin
          go_wp2_with (first
           | (go_at_call 54; refine LN.mono ?_; clear LN; rintro e w12 ⟨rfl, rfl⟩)
           | (go_at_call 55; refine ST.mono ?_; clear ST; rintro e w13 ⟨rfl, hb13⟩))
          go_ret2; refine ⟨by rw [hfin.out]; rfl, ?_⟩
          exact HB0.out.trans ((B11.out.trans hb13).mono (by omega))
     ·obtain ⟨rfl, hn0⟩ : d = 0 ∧ nm.data.toList = [] := by
       by_cases h : d = 0 ∧ nm.data.toList = []
       ·exact h
       ·exact absurd (.inr ⟨rfl, h⟩) hg0
      obtain rfl : nm = ⟨#[]⟩ := by rw [← mk_data nm, hn0]; rfl
      go_upto_region 10 with (go_at_call 50; refine (CK.out _).mono ?_; clear CK; rintro e w2 ⟨rfl, hb2⟩; have y0 := bl_cell hb2 q0; have y1 := bl_cell hb2 q1; have y2 := bl_cell hb2 q2; have y3 := bl_cell hb2 q3)
      clear hg0 q0 q1 q2 q3 y1 y2 y3 hn0
      by_cases h20 : 20 < l.length
      ·have hfin : descT l true 0 [] = ([], 5) := by rw [descT, if_neg (by rw [HD.out]; decide), if_neg (by simp [hc0.out]), if_pos h20]
       replace hfin := Lib.hid hfin; go_wp2; go_ret2; refine ⟨by rw [hfin.out]; rfl, ?_⟩
       exact (HB0.out.trans (HB.out.mono HB0.out.size)).trans (hb2.mono (Nat.le_trans HB0.out.size HB.out.size))
      ·have hcl := descCat_len l HD.out
       have B2 := Lib.hid (HB.out.trans (hb2.mono HB.out.size))
       have hsz1 : w.heap.size + 1 ≤ W0.heap.size := by omega
       have I2 := isB_below HI0.out B2.out; have WB := Lib.hid (writeByte_any (w.heap.size + 1) (w.heap.size + 1) [] 40 w2 I2 (by simp) (by have := B2.out.size; omega)); clear I2; go_wp2_with (go_at_call 51; refine WB.out.mono ?_; clear WB; rintro e w5 ⟨rfl, hi5, hb5⟩; have B5 : Hid (Below (w.heap.size + 1) W0 w5) := (B2.out.mono hsz1).trans hb5; have Z5 := Lib.hid ((B5.out.block w.heap.size (by omega)).trans Z0.out); have q5 := (blk_cell Z5.out 0).trans rfl)
       go_loopw [42] (fun i wx => ∃ j : Nat, j ≤ l.length ∧ i = .int .i64 j ∧ Hid (Below (w.heap.size + 1) W0 wx) ∧ Hid (Lib.IsBuilder 67 5 (w.heap.size + 1) (w.heap.size + 1) (Lib.byteCells (40 :: descCat (l.take j))) wx)) (fun i _ => l.length - (intOf i).toNat)
       case atStart => exact ⟨0, Nat.zero_le _, rfl, B5, Lib.hid hi5⟩
       case round =>
        clear q5 hi5 B5 Z5; obtain ⟨j, hj, rfl, BX, IX⟩ := hrel
        by_cases hlt : j < l.length
        ·have hBX : Below w.heap.size w wr := HB0.out.trans (BX.out.mono (by omega))
         obtain ⟨ad, rfl, x0, x1⟩ := at_T41 (Kd.C_below HR.out hBX) (j : Int) (by omega) (by omega); rw [Int.toNat_natCast] at x0 x1; have hck := bad_at l j hlt HD.out; have hct := cat_take l j hlt; have hcl2 := descCat_len (l.take j) (bad_part HD.out j); rw [List.length_take] at hcl2; generalize rd_T41 l (j : Int) = x at *; obtain ⟨xd, xn⟩ := x; simp only at x0 x1 hck hct; obtain ⟨k0, k1, k2⟩ := chk_bounds hck; have hwl := wr_len hck; have WR := written_any xd.toNat (by omega) xn.data.toList (by omega); rw [tyV, mk_data, show ((xd.toNat : Nat) : Int) = xd by omega] at WR; replace WR := Lib.hid WR; replace hct := Lib.hid hct
         go_wp2_with (first
          | (go_at_call 53; refine (WR.out _).mono ?_; clear WR; rintro e w6 ⟨rfl, hb6⟩; have hal := ((Below.refl wr.heap.size wr).alloc (Nat.le_refl _) (.cells #[.int .i64 xd, .string xn] 41)).trans (hb6.mono (by simp)); have B6 := Lib.hid (BX.out.trans (hal.mono (Nat.le_trans hsz1 BX.out.size))); have I6 := isB_below IX.out hal; have WS := Lib.hid (writeString_any (w.heap.size + 1) (w.heap.size + 1) (Lib.byteCells (40 :: descCat (l.take j))) (bs (Ty.wr xd.toNat xn.data.toList)) w6 I6 (by rw [Lib.byteCells_length, mk_size]; simp; omega) (by have := B6.out.size; omega)))
          | (go_at_call 52; refine WS.out.mono ?_; clear WS; rintro e w7 ⟨rfl, hi7, hb7⟩))
         rw [bc_append] at hi7
         exact ⟨⟨j + 1, by omega, by go_num, B6.out.trans hb7, by rw [hct.out]; exact hi7⟩, by simp [intOf]; omega⟩
        ·obtain rfl : j = l.length := by omega
         rw [List.take_length] at IX; have WB := Lib.hid (writeByte_any (w.heap.size + 1) (w.heap.size + 1) (Lib.byteCells (40 :: descCat l)) 41 wr IX.out (by rw [Lib.byteCells_length]; simp; omega) (by have := BX.out.size; omega)); go_wp2_with (go_at_call 51; refine WB.out.mono ?_; clear WB; rintro e w9 ⟨rfl, hi9, hb9⟩; have B9 : Hid (Below (w.heap.size + 1) W0 w9) := BX.out.trans hb9; have Z9 := Lib.hid ((B9.out.block w.heap.size (by omega)).trans Z0.out); have q1 := (blk_cell Z9.out 1).trans rfl); have e9 : Lib.byteCells (40 :: descCat l) ++ [.int .u8 41] = Lib.byteCells (40 :: (descCat l ++ [41])) := bc_one (40 :: descCat l) 41; rw [e9] at hi9; have I9 := Lib.hid hi9; clear hi9 e9; have WB2 := writeByte_any (w.heap.size + 1) (w.heap.size + 1) (Lib.byteCells (40 :: (descCat l ++ [41]))) 86 w9 I9.out (by rw [Lib.byteCells_length]; simp; omega) (by have := B9.out.size; omega); replace WB2 := Lib.hid WB2; go_wp2_with (go_at_call 51; refine WB2.out.mono ?_; clear WB2; rintro e w11 ⟨rfl, hi11, hb11⟩)
         have e11 : Lib.byteCells (40 :: (descCat l ++ [41])) ++ [.int .u8 86] = Lib.byteCells (descBody l true 0 []) := by
          have := bc_one (40 :: (descCat l ++ [41])) 86; rw [show descBody l true 0 [] = (40 :: (descCat l ++ [41])) ++ [86] by simp [descBody]]
          exact this
         rw [e11] at hi11; have I11 := Lib.hid hi11; have B11 := Lib.hid (B9.out.trans hb11); clear e11 hi11 hb11; have LN := Tryd.Builder_Len (w.heap.size + 1) (w.heap.size + 1) _ w11 I11.out; rw [Lib.byteCells_length] at LN; have ST := Tryd.Builder_String (w.heap.size + 1) (w.heap.size + 1) (descBody l true 0 []) w11 I11.out (by simp [descBody])
         by_cases h2k : 2000 < (descBody l true 0 []).length
         ·have hfin : descT l true 0 [] = ([], 5) := by rw [descT, if_neg (by rw [HD.out]; decide), if_neg (by simp [hc0.out]), if_neg h20, if_pos h2k]
          clear ST; generalize descBody l true 0 [] = body at *; replace hfin := Lib.hid hfin; go_wp2_with (go_at_call 54; refine LN.mono ?_; clear LN; rintro e w12 ⟨rfl, rfl⟩); go_ret2; refine ⟨by rw [hfin.out]; rfl, ?_⟩
          exact HB0.out.trans (B11.out.mono (by omega))
         ·have hfin : descT l true 0 [] = (descBody l true 0 [], 0) := by rw [descT, if_neg (by rw [HD.out]; decide), if_neg (by simp [hc0.out]), if_neg h20, if_neg h2k]
          generalize descBody l true 0 [] = body at *; replace hfin := Lib.hid hfin
          go_wp2_with (first
           | (go_at_call 54; refine LN.mono ?_; clear LN; rintro e w12 ⟨rfl, rfl⟩)
           | (go_at_call 55; refine ST.mono ?_; clear ST; rintro e w13 ⟨rfl, hb13⟩))
          go_ret2; refine ⟨by rw [hfin.out]; rfl, ?_⟩
          exact HB0.out.trans ((B11.out.trans hb13).mono (by omega))
    ·obtain ⟨rfl, hz⟩ := hg0
     have hfin : descT l true d nm.data.toList = ([], 1) := by rw [descT, if_neg (by rw [HD.out]; decide), if_pos (.inr ⟨rfl, hz⟩)]
     replace hfin := Lib.hid hfin
     by_cases hd0 : d = 0
     ·subst hd0
      have hn0 : ¬ nm.toList = [] := by rw [Lib.toList_data]; exact fun e => hz ⟨rfl, e⟩
      go_wp2_with (go_at_call 50; refine (CK.out _).mono ?_; clear CK; rintro e w2 ⟨rfl, hb2⟩; have y0 := bl_cell hb2 q0; have y1 := bl_cell hb2 q1; have y2 := bl_cell hb2 q2; have y3 := bl_cell hb2 q3)
      all_goals
       go_ret2; refine ⟨by rw [hfin.out]; rfl, ?_⟩
       exact (HB0.out.trans (HB.out.mono HB0.out.size)).trans (hb2.mono (Nat.le_trans HB0.out.size HB.out.size))
     ·go_wp2_with (go_at_call 50; refine (CK.out _).mono ?_; clear CK; rintro e w2 ⟨rfl, hb2⟩; have y0 := bl_cell hb2 q0; have y1 := bl_cell hb2 q1; have y2 := bl_cell hb2 q2; have y3 := bl_cell hb2 q3)
      all_goals
       go_ret2; refine ⟨by rw [hfin.out]; rfl, ?_⟩
       exact (HB0.out.trans (HB.out.mono HB0.out.size)).trans (hb2.mono (Nat.le_trans HB0.out.size HB.out.size))
   ·have hfin : descT l b d nm.data.toList = ([], 1) := by rw [descT, if_neg (by rw [HD.out]; decide), if_pos (.inl hc0)]
    generalize chk d nm.data.toList = ck at *; replace hfin := Lib.hid hfin
    have hc1 : (ck != 0) = true := by simpa using hc0
    go_wp2_with (go_at_call 50; refine (CK.out _).mono ?_; rintro e w2 ⟨rfl, hb2⟩); go_ret2; refine ⟨by rw [hfin.out]; rfl, ?_⟩
    exact (HB0.out.trans (HB.out.mono HB0.out.size)).trans (hb2.mono (Nat.le_trans HB0.out.size HB.out.size))
end Go.Proofs.YtajplppeijmfpaaDoor.Pt

namespace Go.Proofs.YtajplppeijmfpaaDoor.Pt
open Go.RowKit Go.Proofs.YtajplppeijmfpaaDoorW.PrintWords Go.Proofs.YtajplppeijmfpaaDoorW.PrintLast Go.Proofs.YtajplppeijmfpaaDoorW.PrintMore
attribute [local go_sem] max2_int min2_int max_two min_two max_three min_three max_four min_four   -- for this text's walks alone
set_option linter.unusedVariables false
set_option linter.unusedSimpArgs false
def arbiterref02_SameTypes.l0 : Nat → List (S41) → List (S41) → Int → Option (Bool)
 | 0, _, _, _ => none
 | k + 1, x0, x1, x5 => if x5 < (x0.length : Int) then (if 0 ≤ x5 then (if x5 < (x1.length : Int) then ((arbiterref02_Same.f ((rd_T41 x0 x5).f0) ((rd_T41 x0 x5).f1) ((rd_T41 x1 x5).f0) ((rd_T41 x1 x5).f1)).bind fun t131 => (if t131 = true then (arbiterref02_SameTypes.l0 k x0 x1 (wrap64 (x5 + 1))) else (some false))) else (none)) else (none)) else (some true)
def arbiterref02_SameTypes.f (k : Nat) (l0 : List (S41)) (l1 : List (S41)) : Option (Bool) := if (l0.length : Int) = (l1.length : Int) then (arbiterref02_SameTypes.l0 k l0 l1 0) else (some false)
def arbiterref02_SameTypes.T6 : Bool × List (List Nat × List Nat) := (true, [([], []), ([], []), ([0, 1], [0, 1]), ([2], [2]), ([], []), ([], []), ([4, 5], [4, 5]), ([6], [6]), ([3, 7], [3, 7]), ([8], [8])])
def arbiterref02_SameTypes.B6 : List Nat := [0, 0, 3, 7, 0, 0, 48, 112, 255, 511]
theorem arbiterref02_SameTypes.tab6 : rtab .any (opsOf Tryd.f27 6) = arbiterref02_SameTypes.T6 := by kernel_rfl
theorem arbiterref02_SameTypes.bits6 : waitsOk arbiterref02_SameTypes.T6.2 arbiterref02_SameTypes.B6 = true := by kernel_rfl
set_option maxHeartbeats 8000000 in
set_option maxRecDepth 100000 in
theorem arbiterref02_SameTypes.calls (k : Nat) (A0 : Option Addr) (c0 : Nat) (l0 : List (S41)) (A1 : Option Addr) (c1 : Nat) (l1 : List (S41)) (r : Bool) (w : World) (hr0 : Kd.C k41 w A0 l0.length l0) (hc0 : l0.length ≤ c0) (hr1 : Kd.C k41 w A1 l1.length l1) (hc1 : l1.length ≤ c1) (h : arbiterref02_SameTypes.f k l0 l1 = some r) :
  Calls Tryd.prog 27 #[.slice A0 l0.length c0, .slice A1 l1.length c1] w fun e w' => e = .returned (.bool r) ∧ Below w.heap.size w w' := by
 have hu41 := Tryd.underlying41; have HR0 := Aside0.mk hr0; have HC0 := Aside0.mk hc0; clear hr0 hc0; have HR1 := Aside0.mk hr1; have HC1 := Aside0.mk hc1; clear hr1 hc1; have HB := Aside0.mk (Below.refl w.heap.size w); have H : (if (l0.length : Int) = (l1.length : Int) then (arbiterref02_SameTypes.l0 k l0 l1 0) else (some false)) = some r := h; clear h
 by_cases c3 : (l0.length : Int) = (l1.length : Int)
 ·rw [if_pos c3] at H
  have c3b0 : ((l0.length : Int) == (l1.length : Int)) = true := beq_iff_eq.mpr c3; have c3b1 : ((l0.length : Int) != (l1.length : Int)) = false := bne_eq_false_iff_eq.mpr c3
  have c3b2 : (l0.length == l1.length) = true := by first | simpa using c3 | (simp at c3 ⊢; omega)
  clear c3; have H' := Aside0.mk H; clear H; go_enter Tryd.func27, Tryd.ntmps27; go_wp2
  go_loopg [5] k (fun kq v5 w' => ∃ (x5_1 : Int), v5 = .int .i64 x5_1 ∧ Aside0 (arbiterref02_SameTypes.l0 kq l0 l1 x5_1 = some r) ∧ Aside0 (kq ≤ k) ∧ Aside0 (Below w.heap.size w w'))
  case atStart => exact ⟨(0), vX, H', ⟨Nat.le_refl _⟩, ⟨bX HB⟩⟩
  case round =>
   clear H'
   try clear c1
   try clear c2
   try clear p2
   try clear c3
   try clear c3b0
   try clear c3b1
   try clear c3b2
   obtain ⟨x5_1, rfl, HA, HK1, HB⟩ := hrel
   cases gk with
   | zero => exact absurd HA.out (by simp [arbiterref02_SameTypes.l0])
   | succ k1 =>
    have H := HA.out; clear HA; simp only [arbiterref02_SameTypes.l0] at H
    by_cases c4 : x5_1 < (l0.length : Int)
    ·rw [if_pos c4] at H
     have c4b0 : decide (x5_1 < (l0.length : Int)) = true := decide_eq_true c4; clear c4
     by_cases c5 : 0 ≤ x5_1
     ·rw [if_pos c5] at H
      have c5b0 : decide (0 ≤ x5_1) = true := decide_eq_true c5; clear c5
      by_cases c6 : x5_1 < (l1.length : Int)
      ·rw [if_pos c6] at H
       have c6b0 : decide (x5_1 < (l1.length : Int)) = true := decide_eq_true c6; clear c6; replace H := Option.bind_eq_some_iff.mp H; obtain ⟨t131, A70, H⟩ := H; replace H : (if t131 = true then (arbiterref02_SameTypes.l0 k1 l0 l1 (wrap64 (x5_1 + 1))) else (some false)) = some r := H; have A7 := Aside0.mk A70; clear A70
       by_cases c8 : t131 = true
       ·subst c8
        have H1 : (arbiterref02_SameTypes.l0 k1 l0 l1 (wrap64 (x5_1 + 1))) = some r := by rw [if_pos rfl] at H; exact H
        clear H; have H := H1; clear H1; have H' := Aside0.mk H; clear H
        try go_wp2
        have n0_ := Aside0.mk (below_drew1 HB.out); clear HB; have HB := n0_; clear n0_; have p129 : 0 ≤ (x5_1 : Int) := qX; have q129 : x5_1 < (l0.length : Int) := qX; obtain ⟨ad129, e129, hx129_0, hx129_1⟩ := at_T41 HR0.out x5_1 p129 q129; have hw129_1 := hx129_1; have hw129_0 := hx129_0
        cases e129
        replace hx129_0 := (HB.out.cell (World.block_lt_of_cell? w _ hx129_0)).trans hx129_0; replace hx129_1 := (HB.out.cell (World.block_lt_of_cell? w _ hx129_1)).trans hx129_1; replace p129 := eq_true p129; replace q129 := eq_true q129; have p130 : 0 ≤ (x5_1 : Int) := qX; have q130 : x5_1 < (l1.length : Int) := qX; obtain ⟨ad130, e130, hx130_0, hx130_1⟩ := at_T41 HR1.out x5_1 p130 q130; have hw130_1 := hx130_1; have hw130_0 := hx130_0
        cases e130
        replace hx130_0 := (HB.out.cell (World.block_lt_of_cell? w _ hx130_0)).trans hx130_0; replace hx130_1 := (HB.out.cell (World.block_lt_of_cell? w _ hx130_1)).trans hx130_1; replace p130 := eq_true p130; replace q130 := eq_true q130; refine start_ (n := 10) (S := fun w' => w'.cell? (ad129.add ((x5_1).toNat * 2)) = some (.int .i64 ((rd_T41 l0 x5_1).f0)) ∧ w'.cell? ⟨(ad129.add ((x5_1).toNat * 2)).block, (ad129.add ((x5_1).toNat * 2)).off + 1, none⟩ = some (.string ((rd_T41 l0 x5_1).f1)) ∧ w'.cell? (ad130.add ((x5_1).toNat * 2)) = some (.int .i64 ((rd_T41 l1 x5_1).f0)) ∧ w'.cell? ⟨(ad130.add ((x5_1).toNat * 2)).block, (ad130.add ((x5_1).toNat * 2)).off + 1, none⟩ = some (.string ((rd_T41 l1 x5_1).f1))) (ds := []) #[false, false, false, false, false, false, false, false, false, false] (by kernel_rfl) rfl rfl ⟨((HB.out.cell (World.block_lt_of_cell? w _ hw129_0)).trans hw129_0), ((HB.out.cell (World.block_lt_of_cell? w _ hw129_1)).trans hw129_1), ((HB.out.cell (World.block_lt_of_cell? w _ hw130_0)).trans hw130_0), ((HB.out.cell (World.block_lt_of_cell? w _ hw130_1)).trans hw130_1)⟩ (fun hHeld => ?_); refine with_tabW arbiterref02_SameTypes.tab6 arbiterref02_SameTypes.bits6 (fun HT_ HW_ => ?_); generalize wr.drew = w9 at HB hx129_0 hx129_1 hx130_0 hx130_1 hHeld ⊢; refine pX HT_ 0 (some 17) ?_; refine pX HT_ 1 (some 18) ?_; refine pX HT_ 2 (some 19) ?_; refine pX HT_ 4 (some 21) ?_; refine pX HT_ 5 (some 22) ?_; refine pX HT_ 6 (some 23) ?_; refine tX HT_ HW_ hHeld 3 (some 20) ?_; refine tX HT_ HW_ hHeld 7 (some 24) ?_; refine oX HT_ 8 (some 25) (fun K hK => ?_); refine hX Tryd.func58 #[.agg #[.int .i64 ((rd_T41 l0 x5_1).f0), .string ((rd_T41 l0 x5_1).f1)], .agg #[.int .i64 ((rd_T41 l1 x5_1).f0), .string ((rd_T41 l1 x5_1).f1)]] ?_
        with_reducible refine (arbiterref02_Same.calls ((rd_T41 l0 x5_1).f0) ((rd_T41 l0 x5_1).f1) ((rd_T41 l1 x5_1).f0) ((rd_T41 l1 x5_1).f1) true _ A7.out).mono ?_
        rintro e w10 ⟨rfl, hb⟩; refine ⟨_, rfl, ?_⟩; have n0_ := Aside0.mk (below_step (bX HB) hb); clear HB; have HB := n0_; clear n0_
        (try clear hb)
        (try clear hb2)
        (try clear hk)
        (try clear hi)
        refine hK.out _ _ ⟨((HB.out.cell (World.block_lt_of_cell? w _ hw129_0)).trans hw129_0), ((HB.out.cell (World.block_lt_of_cell? w _ hw129_1)).trans hw129_1), ((HB.out.cell (World.block_lt_of_cell? w _ hw130_0)).trans hw130_0), ((HB.out.cell (World.block_lt_of_cell? w _ hw130_1)).trans hw130_1)⟩ (fun hHeld => ?_); clear hK K; refine nX (some 25) ?_; refine pX HT_ 9 (some 26) ?_; refine done_ (done_of HT_.out (by kernel_rfl)) ?_
        try go_wp2
        go_roundg k1
        case measure => have := HK1.out; omega
        case rel => exact ⟨(wrap64 (x5_1 + 1)), vX, H', ⟨by have := HK1.out; omega⟩, ⟨bX HB⟩⟩
       ·replace c8 := Bool.eq_false_iff.mpr c8
        subst c8
        have H1 : (some false) = some r := by rw [if_neg (show ¬ (false = true) by decide)] at H; exact H
        clear H; have H := H1; clear H1; obtain rfl := Option.some.inj H
        try go_wp2
        have n0_ := Aside0.mk (below_drew1 HB.out); clear HB; have HB := n0_; clear n0_; have p129 : 0 ≤ (x5_1 : Int) := qX; have q129 : x5_1 < (l0.length : Int) := qX; obtain ⟨ad129, e129, hx129_0, hx129_1⟩ := at_T41 HR0.out x5_1 p129 q129; have hw129_1 := hx129_1; have hw129_0 := hx129_0
        cases e129
        replace hx129_0 := (HB.out.cell (World.block_lt_of_cell? w _ hx129_0)).trans hx129_0; replace hx129_1 := (HB.out.cell (World.block_lt_of_cell? w _ hx129_1)).trans hx129_1; replace p129 := eq_true p129; replace q129 := eq_true q129; have p130 : 0 ≤ (x5_1 : Int) := qX; have q130 : x5_1 < (l1.length : Int) := qX; obtain ⟨ad130, e130, hx130_0, hx130_1⟩ := at_T41 HR1.out x5_1 p130 q130; have hw130_1 := hx130_1; have hw130_0 := hx130_0
        cases e130
        replace hx130_0 := (HB.out.cell (World.block_lt_of_cell? w _ hx130_0)).trans hx130_0; replace hx130_1 := (HB.out.cell (World.block_lt_of_cell? w _ hx130_1)).trans hx130_1; replace p130 := eq_true p130; replace q130 := eq_true q130; refine start_ (n := 10) (S := fun w' => w'.cell? (ad129.add ((x5_1).toNat * 2)) = some (.int .i64 ((rd_T41 l0 x5_1).f0)) ∧ w'.cell? ⟨(ad129.add ((x5_1).toNat * 2)).block, (ad129.add ((x5_1).toNat * 2)).off + 1, none⟩ = some (.string ((rd_T41 l0 x5_1).f1)) ∧ w'.cell? (ad130.add ((x5_1).toNat * 2)) = some (.int .i64 ((rd_T41 l1 x5_1).f0)) ∧ w'.cell? ⟨(ad130.add ((x5_1).toNat * 2)).block, (ad130.add ((x5_1).toNat * 2)).off + 1, none⟩ = some (.string ((rd_T41 l1 x5_1).f1))) (ds := []) #[false, false, false, false, false, false, false, false, false, false] (by kernel_rfl) rfl rfl ⟨((HB.out.cell (World.block_lt_of_cell? w _ hw129_0)).trans hw129_0), ((HB.out.cell (World.block_lt_of_cell? w _ hw129_1)).trans hw129_1), ((HB.out.cell (World.block_lt_of_cell? w _ hw130_0)).trans hw130_0), ((HB.out.cell (World.block_lt_of_cell? w _ hw130_1)).trans hw130_1)⟩ (fun hHeld => ?_); refine with_tabW arbiterref02_SameTypes.tab6 arbiterref02_SameTypes.bits6 (fun HT_ HW_ => ?_); generalize wr.drew = w11 at HB hx129_0 hx129_1 hx130_0 hx130_1 hHeld ⊢; refine pX HT_ 0 (some 17) ?_; refine pX HT_ 1 (some 18) ?_; refine pX HT_ 2 (some 19) ?_; refine pX HT_ 4 (some 21) ?_; refine pX HT_ 5 (some 22) ?_; refine pX HT_ 6 (some 23) ?_; refine tX HT_ HW_ hHeld 3 (some 20) ?_; refine tX HT_ HW_ hHeld 7 (some 24) ?_; refine oX HT_ 8 (some 25) (fun K hK => ?_); refine hX Tryd.func58 #[.agg #[.int .i64 ((rd_T41 l0 x5_1).f0), .string ((rd_T41 l0 x5_1).f1)], .agg #[.int .i64 ((rd_T41 l1 x5_1).f0), .string ((rd_T41 l1 x5_1).f1)]] ?_
        with_reducible refine (arbiterref02_Same.calls ((rd_T41 l0 x5_1).f0) ((rd_T41 l0 x5_1).f1) ((rd_T41 l1 x5_1).f0) ((rd_T41 l1 x5_1).f1) false _ A7.out).mono ?_
        rintro e w12 ⟨rfl, hb⟩; refine ⟨_, rfl, ?_⟩; have n0_ := Aside0.mk (below_step (bX HB) hb); clear HB; have HB := n0_; clear n0_
        (try clear hb)
        (try clear hb2)
        (try clear hk)
        (try clear hi)
        refine hK.out _ _ ⟨((HB.out.cell (World.block_lt_of_cell? w _ hw129_0)).trans hw129_0), ((HB.out.cell (World.block_lt_of_cell? w _ hw129_1)).trans hw129_1), ((HB.out.cell (World.block_lt_of_cell? w _ hw130_0)).trans hw130_0), ((HB.out.cell (World.block_lt_of_cell? w _ hw130_1)).trans hw130_1)⟩ (fun hHeld => ?_); clear hK K; refine nX (some 25) ?_; refine pX HT_ 9 (some 26) ?_; refine done_ (done_of HT_.out (by kernel_rfl)) ?_
        try go_wp2
        go_ret
        exact ⟨by first | rfl | (simp [errW_none, errW_some] <;> rfl) | (simp [*, errW_none, errW_some] <;> rfl), bX HB⟩
      ·rw [if_neg c6] at H
       exact absurd H (by simp)
     ·rw [if_neg c5] at H
      exact absurd H (by simp)
    ·rw [if_neg c4] at H
     have c4b0 : decide (x5_1 < (l0.length : Int)) = false := decide_eq_false c4; clear c4; obtain rfl := Option.some.inj H; go_wp2; go_ret
     exact ⟨by first | rfl | (simp [errW_none, errW_some] <;> rfl) | (simp [*, errW_none, errW_some] <;> rfl), bX HB⟩
 ·rw [if_neg c3] at H
  have c3b0 : ((l0.length : Int) == (l1.length : Int)) = false := beq_eq_false_iff_ne.mpr c3; have c3b1 : ((l0.length : Int) != (l1.length : Int)) = true := bne_iff_ne.mpr c3
  have c3b2 : (l0.length == l1.length) = false := by first | simpa using c3 | (simp at c3 ⊢; omega)
  obtain rfl := Option.some.inj H; go_enter Tryd.func27, Tryd.ntmps27; go_wp2; go_ret
  exact ⟨by first | rfl | (simp [errW_none, errW_some] <;> rfl) | (simp [*, errW_none, errW_some] <;> rfl), bX HB⟩
def arbiterref02_SameDesc.f (k : Nat) (l0_0 : List (S41)) (a0_1 : Bool) (a0_2 : Int) (a0_3 : ByteArray) (l1_0 : List (S41)) (a1_1 : Bool) (a1_2 : Int) (a1_3 : ByteArray) : Option (Bool) := if (a0_1 == a1_1) = true then ((arbiterref02_Same.f a0_2 a0_3 a1_2 a1_3).bind fun t134 => (if t134 = true then ((arbiterref02_SameTypes.f k l0_0 l1_0).bind fun t135 => (some t135)) else (some false))) else (some false)
set_option maxHeartbeats 8000000 in
set_option maxRecDepth 100000 in
theorem arbiterref02_SameDesc.calls (k : Nat) (A0_0 : Option Addr) (c0_0 : Nat) (l0_0 : List (S41)) (a0_1 : Bool) (a0_2 : Int) (a0_3 : ByteArray) (A1_0 : Option Addr) (c1_0 : Nat) (l1_0 : List (S41)) (a1_1 : Bool) (a1_2 : Int) (a1_3 : ByteArray) (r : Bool) (w : World) (hr0_0 : Kd.C k41 w A0_0 l0_0.length l0_0) (hc0_0 : l0_0.length ≤ c0_0) (hr1_0 : Kd.C k41 w A1_0 l1_0.length l1_0) (hc1_0 : l1_0.length ≤ c1_0) (h : arbiterref02_SameDesc.f k l0_0 a0_1 a0_2 a0_3 l1_0 a1_1 a1_2 a1_3 = some r) :
  Calls Tryd.prog 29 #[.agg #[.slice A0_0 l0_0.length c0_0, .bool a0_1, .int .i64 a0_2, .string a0_3], .agg #[.slice A1_0 l1_0.length c1_0, .bool a1_1, .int .i64 a1_2, .string a1_3]] w fun e w' => e = .returned (.bool r) ∧ Below w.heap.size w w' := by
 have hu43 := Tryd.underlying43; have hu41 := Tryd.underlying41; have HR0_0 := Aside0.mk hr0_0; have HC0_0 := Aside0.mk hc0_0; clear hr0_0 hc0_0; have HR1_0 := Aside0.mk hr1_0; have HC1_0 := Aside0.mk hc1_0; clear hr1_0 hc1_0; have HB := Aside0.mk (Below.refl w.heap.size w); have H : (if (a0_1 == a1_1) = true then ((arbiterref02_Same.f a0_2 a0_3 a1_2 a1_3).bind fun t134 => (if t134 = true then ((arbiterref02_SameTypes.f k l0_0 l1_0).bind fun t135 => (some t135)) else (some false))) else (some false)) = some r := h; clear h
 by_cases c3 : (a0_1 == a1_1) = true
 ·rw [if_pos c3] at H
  have c3b0 : (a0_1 == a1_1) = true := c3
  (try (have c3b1 : decide (a0_1 = a1_1) = true := by simpa using c3))
  (try (have c3b2 : (a0_1 == a1_1) = true := by simpa using c3))
  clear c3; replace H := Option.bind_eq_some_iff.mp H; obtain ⟨t134, A40, H⟩ := H; replace H : (if t134 = true then ((arbiterref02_SameTypes.f k l0_0 l1_0).bind fun t135 => (some t135)) else (some false)) = some r := H; have A4 := Aside0.mk A40; clear A40
  by_cases c5 : t134 = true
  ·subst c5
   have H1 : ((arbiterref02_SameTypes.f k l0_0 l1_0).bind fun t135 => (some t135)) = some r := by rw [if_pos rfl] at H; exact H
   clear H; have H := H1; clear H1; replace H := Option.bind_eq_some_iff.mp H; obtain ⟨t135, A60, H⟩ := H; replace H : (some t135) = some r := H; have A6 := Aside0.mk A60; clear A60; obtain rfl := Option.some.inj H; go_enter Tryd.func29, Tryd.ntmps29; go_wp2_with (first | ((with_reducible refine gate_dst (N := 2) rfl ?_); refine eX 2 #[.slice A0_0 l0_0.length c0_0, .bool a0_1, .int .i64 a0_2, .string a0_3] 43 ?_; intro gb132 hg w7 hbox hb; have n0_ := Aside0.mk (below_step (bX HB) hb); have n1_ := Aside0.mk (hbox); have n2_ := Aside0.mk ((by rw [hg]; exact (below_size (bX HB)) : w.heap.size ≤ gb132)); have n3_ := Aside0.mk ((by rw [hg]; exact (below_size (bX HB)) : w.heap.size ≤ gb132)); clear HB; have HB := n0_; have BK132 := n1_; have GW132 := n2_; have GE132 := n3_; clear n0_ n1_ n2_ n3_; clear hb hbox hg) | ((with_reducible refine gate_dst (N := 3) rfl ?_); refine eX 3 #[.slice A1_0 l1_0.length c1_0, .bool a1_1, .int .i64 a1_2, .string a1_3] 43 ?_; intro gb133 hg w8 hbox hb; have n0_ := Aside0.mk (blk_below (kX BK132) hb); have n1_ := Aside0.mk (below_step (bX1 HB GE132) hb); have n2_ := Aside0.mk (hbox); have n3_ := Aside0.mk ((by rw [hg]; exact (below_size (bX1 HB GE132)) : w.heap.size ≤ gb133)); have n4_ := Aside0.mk ((by rw [hg]; exact (below_size (bX1 HB GE132)) : w.heap.size ≤ gb133)); have n5_ := Aside0.mk ((by rw [hg]; exact Nat.ne_of_lt (blk_lt (kX BK132)) : gb132 ≠ gb133)); have n6_ := Aside0.mk ((by rw [hg]; exact Nat.ne_of_gt (blk_lt (kX BK132)) : gb133 ≠ gb132)); clear BK132; clear HB; have BK132 := n0_; have HB := n1_; have BK133 := n2_; have GW133 := n3_; have GE133 := n4_; have NB132_133 := n5_; have NB133_132 := n6_; clear n0_ n1_ n2_ n3_ n4_ n5_ n6_; clear hb hbox hg; have hnb9 := NB132_133.out; have hnc9 := NB133_132.out; obtain ⟨hcz10_0, hcz10_1, hcz10_2, hcz10_3, hfz10_0, hfz10_1, hfz10_2, hfz10_3⟩ := c4X BK132; obtain ⟨hcz11_0, hcz11_1, hcz11_2, hcz11_3, hfz11_0, hfz11_1, hfz11_2, hfz11_3⟩ := c4X BK133) | (go_at_call 58; (with_reducible refine (arbiterref02_Same.calls a0_2 a0_3 a1_2 a1_3 true _ A4.out).mono ?_); rintro e w12 ⟨rfl, hb⟩; have n0_ := Aside0.mk (blk_below (kX BK132) hb); have n1_ := Aside0.mk (blk_below (kX BK133) hb); have n2_ := Aside0.mk (below_step (bX2 HB GE132 GE133) hb); clear BK132; clear BK133; clear HB; have BK132 := n0_; have BK133 := n1_; have HB := n2_; clear n0_ n1_ n2_; (try clear hb); (try clear hb2); (try clear hk); (try clear hi); obtain ⟨hcz13_0, hcz13_1, hcz13_2, hcz13_3, hfz13_0, hfz13_1, hfz13_2, hfz13_3⟩ := c4X BK132; obtain ⟨hcz14_0, hcz14_1, hcz14_2, hcz14_3, hfz14_0, hfz14_1, hfz14_2, hfz14_3⟩ := c4X BK133) | (go_at_call 27; (with_reducible refine (arbiterref02_SameTypes.calls k _ _ l0_0 _ _ l1_0 t135 _ ?side1 ?side2 ?side3 ?side4 A6.out).mono ?_); (case side1 => repeat (first | exact (Kd.C_below HR0_0.out HB.out) | (with_reducible refine Kd.C_alloc ?_ _) | (with_reducible refine Kd.C_drewN ?_ _) | (with_reducible refine Kd.C_drew ?_))); (case side2 => exact HC0_0.out); (case side3 => repeat (first | exact (Kd.C_below HR1_0.out HB.out) | (with_reducible refine Kd.C_alloc ?_ _) | (with_reducible refine Kd.C_drewN ?_ _) | (with_reducible refine Kd.C_drew ?_))); (case side4 => exact HC1_0.out); rintro e w15 ⟨rfl, hb⟩; have n0_ := Aside0.mk (blk_below (kX BK132) hb); have n1_ := Aside0.mk (blk_below (kX BK133) hb); have n2_ := Aside0.mk (below_step (bX2 HB GE132 GE133) hb); clear BK132; clear BK133; clear HB; have BK132 := n0_; have BK133 := n1_; have HB := n2_; clear n0_ n1_ n2_; (try clear hb); (try clear hb2); (try clear hk); (try clear hi))); go_ret
   exact ⟨by first | rfl | (simp [errW_none, errW_some] <;> rfl) | (simp [*, errW_none, errW_some] <;> rfl), bX2 HB GE132 GE133⟩
  ·replace c5 := Bool.eq_false_iff.mpr c5
   subst c5
   have H1 : (some false) = some r := by rw [if_neg (show ¬ (false = true) by decide)] at H; exact H
   clear H; have H := H1; clear H1; obtain rfl := Option.some.inj H; go_enter Tryd.func29, Tryd.ntmps29; go_wp2_with (first | ((with_reducible refine gate_dst (N := 2) rfl ?_); refine eX 2 #[.slice A0_0 l0_0.length c0_0, .bool a0_1, .int .i64 a0_2, .string a0_3] 43 ?_; intro gb132 hg w16 hbox hb; have n0_ := Aside0.mk (below_step (bX HB) hb); have n1_ := Aside0.mk (hbox); have n2_ := Aside0.mk ((by rw [hg]; exact (below_size (bX HB)) : w.heap.size ≤ gb132)); have n3_ := Aside0.mk ((by rw [hg]; exact (below_size (bX HB)) : w.heap.size ≤ gb132)); clear HB; have HB := n0_; have BK132 := n1_; have GW132 := n2_; have GE132 := n3_; clear n0_ n1_ n2_ n3_; clear hb hbox hg) | ((with_reducible refine gate_dst (N := 3) rfl ?_); refine eX 3 #[.slice A1_0 l1_0.length c1_0, .bool a1_1, .int .i64 a1_2, .string a1_3] 43 ?_; intro gb133 hg w17 hbox hb; have n0_ := Aside0.mk (blk_below (kX BK132) hb); have n1_ := Aside0.mk (below_step (bX1 HB GE132) hb); have n2_ := Aside0.mk (hbox); have n3_ := Aside0.mk ((by rw [hg]; exact (below_size (bX1 HB GE132)) : w.heap.size ≤ gb133)); have n4_ := Aside0.mk ((by rw [hg]; exact (below_size (bX1 HB GE132)) : w.heap.size ≤ gb133)); have n5_ := Aside0.mk ((by rw [hg]; exact Nat.ne_of_lt (blk_lt (kX BK132)) : gb132 ≠ gb133)); have n6_ := Aside0.mk ((by rw [hg]; exact Nat.ne_of_gt (blk_lt (kX BK132)) : gb133 ≠ gb132)); clear BK132; clear HB; have BK132 := n0_; have HB := n1_; have BK133 := n2_; have GW133 := n3_; have GE133 := n4_; have NB132_133 := n5_; have NB133_132 := n6_; clear n0_ n1_ n2_ n3_ n4_ n5_ n6_; clear hb hbox hg; have hnb18 := NB132_133.out; have hnc18 := NB133_132.out; obtain ⟨hcz19_0, hcz19_1, hcz19_2, hcz19_3, hfz19_0, hfz19_1, hfz19_2, hfz19_3⟩ := c4X BK132; obtain ⟨hcz20_0, hcz20_1, hcz20_2, hcz20_3, hfz20_0, hfz20_1, hfz20_2, hfz20_3⟩ := c4X BK133) | (go_at_call 58; (with_reducible refine (arbiterref02_Same.calls a0_2 a0_3 a1_2 a1_3 false _ A4.out).mono ?_); rintro e w21 ⟨rfl, hb⟩; have n0_ := Aside0.mk (blk_below (kX BK132) hb); have n1_ := Aside0.mk (blk_below (kX BK133) hb); have n2_ := Aside0.mk (below_step (bX2 HB GE132 GE133) hb); clear BK132; clear BK133; clear HB; have BK132 := n0_; have BK133 := n1_; have HB := n2_; clear n0_ n1_ n2_; (try clear hb); (try clear hb2); (try clear hk); (try clear hi))); go_ret
   exact ⟨by first | rfl | (simp [errW_none, errW_some] <;> rfl) | (simp [*, errW_none, errW_some] <;> rfl), bX2 HB GE132 GE133⟩
 ·rw [if_neg c3] at H
  have c3b0 : (a0_1 == a1_1) = false := by simpa using c3
  (try (have c3b1 : decide (a0_1 = a1_1) = false := by simpa using c3))
  (try (have c3b2 : (a0_1 == a1_1) = false := by simpa using c3))
  (try (have c3b3 : ¬ (a0_1 = a1_1) := by simpa using c3))
  clear c3; obtain rfl := Option.some.inj H; go_enter Tryd.func29, Tryd.ntmps29; go_wp2_with (first | ((with_reducible refine gate_dst (N := 2) rfl ?_); refine eX 2 #[.slice A0_0 l0_0.length c0_0, .bool a0_1, .int .i64 a0_2, .string a0_3] 43 ?_; intro gb132 hg w22 hbox hb; have n0_ := Aside0.mk (below_step (bX HB) hb); have n1_ := Aside0.mk (hbox); have n2_ := Aside0.mk ((by rw [hg]; exact (below_size (bX HB)) : w.heap.size ≤ gb132)); have n3_ := Aside0.mk ((by rw [hg]; exact (below_size (bX HB)) : w.heap.size ≤ gb132)); clear HB; have HB := n0_; have BK132 := n1_; have GW132 := n2_; have GE132 := n3_; clear n0_ n1_ n2_ n3_; clear hb hbox hg) | ((with_reducible refine gate_dst (N := 3) rfl ?_); refine eX 3 #[.slice A1_0 l1_0.length c1_0, .bool a1_1, .int .i64 a1_2, .string a1_3] 43 ?_; intro gb133 hg w23 hbox hb; have n0_ := Aside0.mk (blk_below (kX BK132) hb); have n1_ := Aside0.mk (below_step (bX1 HB GE132) hb); have n2_ := Aside0.mk (hbox); have n3_ := Aside0.mk ((by rw [hg]; exact (below_size (bX1 HB GE132)) : w.heap.size ≤ gb133)); have n4_ := Aside0.mk ((by rw [hg]; exact (below_size (bX1 HB GE132)) : w.heap.size ≤ gb133)); have n5_ := Aside0.mk ((by rw [hg]; exact Nat.ne_of_lt (blk_lt (kX BK132)) : gb132 ≠ gb133)); have n6_ := Aside0.mk ((by rw [hg]; exact Nat.ne_of_gt (blk_lt (kX BK132)) : gb133 ≠ gb132)); clear BK132; clear HB; have BK132 := n0_; have HB := n1_; have BK133 := n2_; have GW133 := n3_; have GE133 := n4_; have NB132_133 := n5_; have NB133_132 := n6_; clear n0_ n1_ n2_ n3_ n4_ n5_ n6_; clear hb hbox hg; have hnb24 := NB132_133.out; have hnc24 := NB133_132.out; obtain ⟨hcz25_0, hcz25_1, hcz25_2, hcz25_3, hfz25_0, hfz25_1, hfz25_2, hfz25_3⟩ := c4X BK132; obtain ⟨hcz26_0, hcz26_1, hcz26_2, hcz26_3, hfz26_0, hfz26_1, hfz26_2, hfz26_3⟩ := c4X BK133)); go_ret
  exact ⟨by first | rfl | (simp [errW_none, errW_some] <;> rfl) | (simp [*, errW_none, errW_some] <;> rfl), bX2 HB GE132 GE133⟩
def arbiterref02_written.l0 : Nat → List Int → Int → Int → ByteArray → Option (ByteArray)
 | 0, _, _, _, _ => none
 | k + 1, x3, x4, x137000, x137001 => if x4 < x137000 then (if 0 ≤ x4 then (if x4 < (x3.length : Int) then (arbiterref02_written.l0 k (x3.set (x4 : Int).toNat 91) (wrap64 (x4 + 1)) x137000 x137001) else (none)) else (none)) else (if x137001.toList = ([] : List UInt8) then (if (strOfNums x3).size + 1 ≤ 9223372036854775807 then (some ((strOfNums x3) ++ (⟨#[73]⟩ : ByteArray))) else (none)) else (if (strOfNums x3).size + 1 ≤ 9223372036854775807 then (if ((strOfNums x3) ++ (⟨#[76]⟩ : ByteArray)).size + x137001.size ≤ 9223372036854775807 then (if (((strOfNums x3) ++ (⟨#[76]⟩ : ByteArray)) ++ x137001).size + 1 ≤ 9223372036854775807 then (some ((((strOfNums x3) ++ (⟨#[76]⟩ : ByteArray)) ++ x137001) ++ (⟨#[59]⟩ : ByteArray))) else (none)) else (none)) else (none)))
def arbiterref02_written.f (k : Nat) (a0_0 : Int) (a0_1 : ByteArray) : Option (ByteArray) := if 0 ≤ a0_0 then (if (a0_0 : Int).toNat ≤ 281474976710656 then (arbiterref02_written.l0 k (List.replicate (a0_0 : Int).toNat 0) 0 a0_0 a0_1) else (none)) else (none)
set_option maxHeartbeats 8000000 in
set_option maxRecDepth 100000 in
theorem arbiterref02_written.calls (k : Nat) (a0_0 : Int) (a0_1 : ByteArray) (r : ByteArray) (w : World) (h : arbiterref02_written.f k a0_0 a0_1 = some r) :
  Calls Tryd.prog 57 #[.agg #[.int .i64 a0_0, .string a0_1]] w fun e w' => e = .returned (.string r) ∧ Below w.heap.size w w' := by
 have hu41 := Tryd.underlying41; have HB := Aside0.mk (Below.refl w.heap.size w); have H : (if 0 ≤ a0_0 then (if (a0_0 : Int).toNat ≤ 281474976710656 then (arbiterref02_written.l0 k (List.replicate (a0_0 : Int).toNat 0) 0 a0_0 a0_1) else (none)) else (none)) = some r := h; clear h
 by_cases c2 : 0 ≤ a0_0
 ·rw [if_pos c2] at H
  have c2b0 := eq_true c2; have c2b1 : decide (0 ≤ a0_0) = true := decide_eq_true c2; clear c2
  by_cases c3 : (a0_0 : Int).toNat ≤ 281474976710656
  ·rw [if_pos c3] at H
   have c3b0 := eq_true c3; have c3b1 : decide ((a0_0 : Int).toNat ≤ 281474976710656) = true := decide_eq_true c3; clear c3
   obtain ⟨y137, hy137⟩ : ∃ y_ : List Int, y_ = (List.replicate (a0_0 : Int).toNat 0) := ⟨_, rfl⟩
   replace H : (arbiterref02_written.l0 k y137 0 a0_0 a0_1) = some r := by first | (rw [hy137]; with_reducible exact H) | (have H2_ := (Option.bind_some _ _).symm.trans H; rw [hy137]; with_reducible exact H2_) | (have H2_ := (Option.bind_some _ _).symm.trans H; with_reducible exact H2_) | with_reducible exact H | (rw [hy137]; exact H) | exact H
   have Ny137 := Aside0.mk hy137; clear hy137; have H' := Aside0.mk H; clear H; go_enter Tryd.func57, Tryd.ntmps57; go_wp2_with (first | ((with_reducible refine gate_dst (N := 1) rfl ?_); refine eX 1 #[.int .i64 a0_0, .string a0_1] 41 ?_; intro gb136 hg w4 hbox hb; have n0_ := Aside0.mk (below_step (bX HB) hb); have n1_ := Aside0.mk (hbox); have n2_ := Aside0.mk ((by rw [hg]; exact (below_size (bX HB)) : w.heap.size ≤ gb136)); have n3_ := Aside0.mk ((by rw [hg]; exact (below_size (bX HB)) : w.heap.size ≤ gb136)); clear HB; have HB := n0_; have BK136 := n1_; have GW136 := n2_; have GE136 := n3_; clear n0_ n1_ n2_ n3_; clear hb hbox hg; obtain ⟨hcz5_0, hcz5_1, hfz5_0, hfz5_1⟩ := c2X BK136) | ((with_reducible refine gate_dst (N := 7) rfl ?_); refine Kd.R_make (Kd.int .u8) _ 5 rfl (N := 7) rfl 65 _ _ rfl a0_0 rfl rfl Tryd.underlying65 (.int .u8 0) 1 info5 rfl (by decide) (by omega) 0 (ok := fun _ => True) (okp := fun _ => True) rfl (fun _ hk => hk) trivial (qX) (Nat.le_trans (Nat.mul_le_mul_right _ (qX : a0_0.toNat ≤ 281474976710656)) (by omega)) (Below.refl _ _) (Nat.le_refl _) ?_; intro v138 w6 ho7 hb hg_ hnew_; clear hg_ hnew_; (first | rw [← Ny137.out] at ho7 | (simp only [Int.reduceToNat] at ho7; rw [← Ny137.out] at ho7)); have n0_ := Aside0.mk (Kd.R_lower ho7 (below_size (bX1 HB GE136))); have n1_ := Aside0.mk (blk_below (kX BK136) hb); have n2_ := Aside0.mk (below_step (bX1 HB GE136) hb); clear BK136; clear HB; have HO139 := n0_; have BK136 := n1_; have HB := n2_; clear n0_ n1_ n2_; clear hb ho7))
   go_loopg [4] k (fun kq v4 w' => ∃ (x3_1 : List Int) (x4_1 : Int), v4 = .int .i64 x4_1 ∧ Aside0 (arbiterref02_written.l0 kq x3_1 x4_1 a0_0 a0_1 = some r) ∧ Aside0 (kq ≤ k) ∧ Aside0 (Kd.R (Kd.int .u8) 5 w' w.heap.size (fun _ => True) v138 x3_1) ∧ Aside0 (w'.heap[gb136]? = some (.cells #[.int .i64 a0_0, .string a0_1] 41 (0, 0))) ∧ Aside0 (Below w.heap.size w w'))
   case atStart => exact ⟨(y137), (0), vX, H', ⟨Nat.le_refl _⟩, ⟨rX HO139⟩, ⟨by (with_reducible repeat (first | refine blk_drewN ?_ _ | refine blk_drew ?_ | refine blk_alloc ?_ _)); exact BK136.out⟩, ⟨bX1 HB GE136⟩⟩
   case round =>
    clear H'
    try clear c2
    try clear c2b0
    try clear c2b1
    try clear p2
    try clear c3
    try clear c3b0
    try clear c3b1
    try clear c5
    try clear hcz5_0 hcz5_1
    try clear hfz5_0 hfz5_1
    obtain ⟨x3_1, x4_1, rfl, HA, HK1, HO_3, BK136, HB⟩ := hrel
    cases gk with
    | zero => exact absurd HA.out (by simp [arbiterref02_written.l0])
    | succ k1 =>
     have H := HA.out; clear HA; simp only [arbiterref02_written.l0] at H
     by_cases c8 : x4_1 < a0_0
     ·rw [if_pos c8] at H
      have c8b0 : decide (x4_1 < a0_0) = true := decide_eq_true c8; clear c8
      by_cases c9 : 0 ≤ x4_1
      ·rw [if_pos c9] at H
       have c9b0 : decide (0 ≤ x4_1) = true := decide_eq_true c9; clear c9
       by_cases c10 : x4_1 < (x3_1.length : Int)
       ·rw [if_pos c10] at H
        have c10b0 : decide (x4_1 < (x3_1.length : Int)) = true := decide_eq_true c10; clear c10
        obtain ⟨y140, hy140⟩ : ∃ y_ : List Int, y_ = (x3_1.set (x4_1 : Int).toNat 91) := ⟨_, rfl⟩
        replace H : (arbiterref02_written.l0 k1 y140 (wrap64 (x4_1 + 1)) a0_0 a0_1) = some r := by first | (rw [hy140]; with_reducible exact H) | (have H2_ := (Option.bind_some _ _).symm.trans H; rw [hy140]; with_reducible exact H2_) | (have H2_ := (Option.bind_some _ _).symm.trans H; with_reducible exact H2_) | with_reducible exact H | (rw [hy140]; exact H) | exact H
        have Ny140 := Aside0.mk hy140; clear hy140; have H' := Aside0.mk H; clear H; obtain ⟨hcz12_0, hcz12_1, hfz12_0, hfz12_1⟩ := c2X BK136; have p11 : 0 ≤ (x4_1 : Int) := qX; have q11 : (x4_1 : Int) < ((x3_1.length : Int) : Int) := qX; obtain ⟨go11, co11, eo11, gb11, gl11, cl11, HG11⟩ := Kd.R_form HO_3.out (by omega)
        (first | cases eo11 | (injection eo11 with ea_ en_ ec_; (first | subst ea_ | (injection ea_ with ea_; subst ea_)); subst ec_; clear en_))
        have GB11 := Aside0.mk gb11; have GG11 := Aside0.mk HG11; clear gb11 gl11 HG11; obtain ⟨hx11_0, hf11_0⟩ := Kd.R_celln 0 HO_3.out (x4_1 : Int) p11 q11; replace p11 := eq_true p11; replace q11 := eq_true q11; have HP13 := Kd.R_putg HO_3.out (x4_1 : Int) 91; go_wp2_with (first | ((with_reducible refine gate_store (t := 5) (p := 16) rfl ?_); refine store_event (t := 5) (p := 16) (v := ?vo_w14) (w1 := (wr.setCell ⟨go11, (x4_1 : Int).toNat, none⟩ (.int .u8 91))) ?hg ?ho ?hn ?hr ?_; (case ho => rfl); (case hg => rfl); (case hn => rfl); (case hr => first | (go_simp; done) | (go_simp; rfl)); intro w14 hw; have hg : wr.grownBy w14 (some go11) := (by rw [hw]; exact HP13.2); have hp_ : Kd.R (Kd.int .u8) 5 w14 w.heap.size (fun _ => True) (.slice (some ⟨go11, 0, none⟩) x3_1.length co11) y140 := (by rw [hw, Ny140.out]; exact HP13.1); clear HP13; have n0_ := Aside0.mk (hp_); have n1_ := Aside0.mk (blk_grown (g := gb136) (o := .cells #[.int .i64 a0_0, .string a0_1] 41 (0, 0)) (kX BK136) hg (Kd.R_ne HO_3.out BK136.out (by decide))); have n2_ := Aside0.mk ((by rw [hw]; exact below_set (HB.out) GB11.out : Below w.heap.size w w14)); clear HO_3; clear BK136; clear HB; have HO_3 := n0_; have BK136 := n1_; have HB := n2_; clear n0_ n1_ n2_; clear hg hw hp_))
        go_roundg k1
        case measure => have := HK1.out; omega
        case rel => exact ⟨(y140), (wrap64 (x4_1 + 1)), vX, H', ⟨by have := HK1.out; omega⟩, ⟨rX HO_3⟩, ⟨by (with_reducible repeat (first | refine blk_drewN ?_ _ | refine blk_drew ?_ | refine blk_alloc ?_ _)); exact BK136.out⟩, ⟨bX1 HB GE136⟩⟩
       ·rw [if_neg c10] at H
        exact absurd H (by simp)
      ·rw [if_neg c9] at H
       exact absurd H (by simp)
     ·rw [if_neg c8] at H
      have c8b0 : decide (x4_1 < a0_0) = false := decide_eq_false c8; clear c8
      by_cases c15 : a0_1.toList = ([] : List UInt8)
      ·rw [if_pos c15] at H
       have c15b0 : (a0_1.toList == ([] : List UInt8)) = true := beq_iff_eq.mpr c15; have c15b1 : (a0_1.toList != ([] : List UInt8)) = false := bne_eq_false_iff_eq.mpr c15; clear c15
       by_cases c16 : (strOfNums x3_1).size + 1 ≤ 9223372036854775807
       ·rw [if_pos c16] at H
        have c16b0 := eq_true c16; have c16b1 : decide ((strOfNums x3_1).size + 1 ≤ 9223372036854775807) = true := decide_eq_true c16
        try have c16b2 : (9223372036854775807 < (strOfNums x3_1).size + 1) = False := eq_false (Nat.not_lt.2 c16)
        obtain rfl := Option.some.inj H; obtain ⟨hcz17_0, hcz17_1, hfz17_0, hfz17_1⟩ := c2X BK136; have hcv18 := own_string (P := Tryd.prog) Tryd.underlying65 Tryd.underlying5 Tryd.underlying9 (Kd.own_of_R HO_3.out); go_wp2; go_ret
        exact ⟨by first | rfl | (simp [errW_none, errW_some] <;> rfl) | (simp [*, errW_none, errW_some] <;> rfl), bX1 HB GE136⟩
       ·rw [if_neg c16] at H
        exact absurd H (by simp)
      ·rw [if_neg c15] at H
       have c15b0 : (a0_1.toList == ([] : List UInt8)) = false := beq_eq_false_iff_ne.mpr c15; have c15b1 : (a0_1.toList != ([] : List UInt8)) = true := bne_iff_ne.mpr c15
       by_cases c19 : (strOfNums x3_1).size + 1 ≤ 9223372036854775807
       ·rw [if_pos c19] at H
        have c19b0 := eq_true c19; have c19b1 : decide ((strOfNums x3_1).size + 1 ≤ 9223372036854775807) = true := decide_eq_true c19
        try have c19b2 : (9223372036854775807 < (strOfNums x3_1).size + 1) = False := eq_false (Nat.not_lt.2 c19)
        by_cases c20 : ((strOfNums x3_1) ++ (⟨#[76]⟩ : ByteArray)).size + a0_1.size ≤ 9223372036854775807
        ·rw [if_pos c20] at H
         have c20b0 := eq_true c20; have c20b1 : decide (((strOfNums x3_1) ++ (⟨#[76]⟩ : ByteArray)).size + a0_1.size ≤ 9223372036854775807) = true := decide_eq_true c20
         try have c20b2 : (9223372036854775807 < ((strOfNums x3_1) ++ (⟨#[76]⟩ : ByteArray)).size + a0_1.size) = False := eq_false (Nat.not_lt.2 c20)
         try have c20s := c20
         try simp only [ByteArray.size_append, show (⟨#[76]⟩ : ByteArray).size = 1 from rfl] at c20s
         try have c20sb := eq_true c20s
         try have c20sc := eq_false (Nat.not_lt.2 c20s)
         try clear c20s
         by_cases c21 : (((strOfNums x3_1) ++ (⟨#[76]⟩ : ByteArray)) ++ a0_1).size + 1 ≤ 9223372036854775807
         ·rw [if_pos c21] at H
          have c21b0 := eq_true c21; have c21b1 : decide ((((strOfNums x3_1) ++ (⟨#[76]⟩ : ByteArray)) ++ a0_1).size + 1 ≤ 9223372036854775807) = true := decide_eq_true c21
          try have c21b2 : (9223372036854775807 < (((strOfNums x3_1) ++ (⟨#[76]⟩ : ByteArray)) ++ a0_1).size + 1) = False := eq_false (Nat.not_lt.2 c21)
          try have c21s := c21
          try simp only [ByteArray.size_append, show (⟨#[76]⟩ : ByteArray).size = 1 from rfl] at c21s
          try have c21sb := eq_true c21s
          try have c21sc := eq_false (Nat.not_lt.2 c21s)
          try clear c21s
          obtain rfl := Option.some.inj H; obtain ⟨hcz22_0, hcz22_1, hfz22_0, hfz22_1⟩ := c2X BK136; have hcv23 := own_string (P := Tryd.prog) Tryd.underlying65 Tryd.underlying5 Tryd.underlying9 (Kd.own_of_R HO_3.out); go_wp2; go_ret
          exact ⟨by first | rfl | (simp [errW_none, errW_some] <;> rfl) | (simp [*, errW_none, errW_some] <;> rfl), bX1 HB GE136⟩
         ·rw [if_neg c21] at H
          exact absurd H (by simp)
        ·rw [if_neg c20] at H
         exact absurd H (by simp)
       ·rw [if_neg c19] at H
        exact absurd H (by simp)
  ·rw [if_neg c3] at H
   exact absurd H (by simp)
 ·rw [if_neg c2] at H
  exact absurd H (by simp)
end Go.Proofs.YtajplppeijmfpaaDoor.Pt

namespace Go.Proofs.YtajplppeijmfpaaDoor.Pt
open Go.RowKit Go.Proofs.YtajplppeijmfpaaDoorW.PrintWords Go.Proofs.YtajplppeijmfpaaDoorW.PrintLast Go.Proofs.YtajplppeijmfpaaDoorW.PrintMore
attribute [local go_sem] max2_int min2_int max_two min_two max_three min_three max_four min_four   -- for this text's walks alone
set_option linter.unusedVariables false
set_option linter.unusedSimpArgs false
mutual
def arbiterref02_DescText.l0 : Nat → Int → List (S41) → Bool → Int → ByteArray → Option (ByteArray × Int)
 | 0, _, _, _, _, _ => none
 | k + 1, x4, x142000, x142001, x142002, x142003 => if x4 < (x142000.length : Int) then (if 0 ≤ x4 then ((arbiterref02_Check.f ((rd_T41 x142000 x4).f0) ((rd_T41 x142000 x4).f1)).bind fun t143 => (if t143 = 0 then (arbiterref02_DescText.l0 k (wrap64 (x4 + 1)) x142000 x142001 x142002 x142003) else (some ((⟨#[]⟩ : ByteArray), 1)))) else (none)) else ((arbiterref02_Check.f x142002 x142003).bind fun t144 => (if t144 = 0 then (if x142001 = true then (if x142002 = 0 then (arbiterref02_DescText.j1 k (x142003.toList != ([] : List UInt8)) x142000 x142001 x142002 x142003) else (arbiterref02_DescText.j1 k true x142000 x142001 x142002 x142003)) else (arbiterref02_DescText.j1 k false x142000 x142001 x142002 x142003)) else (arbiterref02_DescText.j1 k true x142000 x142001 x142002 x142003)))
def arbiterref02_DescText.j1 : Nat → Bool → List (S41) → Bool → Int → ByteArray → Option (ByteArray × Int)
 | 0, _, _, _, _, _ => none
 | k + 1, x40, x142000, x142001, x142002, x142003 => if x40 = true then (some ((⟨#[]⟩ : ByteArray), 1)) else (if (x142000.length : Int) > 20 then (some ((⟨#[]⟩ : ByteArray), 5)) else (arbiterref02_DescText.l1 k (⟨#[40]⟩ : ByteArray) 0 x142000 x142001 x142002 x142003))
def arbiterref02_DescText.l1 : Nat → ByteArray → Int → List (S41) → Bool → Int → ByteArray → Option (ByteArray × Int)
 | 0, _, _, _, _, _, _ => none
 | k + 1, x5, x6, x142000, x142001, x142002, x142003 => if x6 < (x142000.length : Int) then (if 0 ≤ x6 then ((arbiterref02_written.f k ((rd_T41 x142000 x6).f0) ((rd_T41 x142000 x6).f1)).bind fun t146 => (if x5.size + t146.size ≤ 9223372036854775807 then (arbiterref02_DescText.l1 k (x5 ++ t146) (wrap64 (x6 + 1)) x142000 x142001 x142002 x142003) else (none))) else (none)) else (if x5.size + 1 ≤ 9223372036854775807 then (if x142001 = true then (if (x5 ++ (⟨#[41]⟩ : ByteArray)).size + 1 ≤ 9223372036854775807 then (if (((x5 ++ (⟨#[41]⟩ : ByteArray)) ++ (⟨#[86]⟩ : ByteArray)).size : Int) > 2000 then (some ((⟨#[]⟩ : ByteArray), 5)) else (some ((x5 ++ (⟨#[41]⟩ : ByteArray)) ++ (⟨#[86]⟩ : ByteArray), 0))) else (none)) else ((arbiterref02_written.f k x142002 x142003).bind fun t147 => (if (x5 ++ (⟨#[41]⟩ : ByteArray)).size + t147.size ≤ 9223372036854775807 then (if (((x5 ++ (⟨#[41]⟩ : ByteArray)) ++ t147).size : Int) > 2000 then (some ((⟨#[]⟩ : ByteArray), 5)) else (some ((x5 ++ (⟨#[41]⟩ : ByteArray)) ++ t147, 0))) else (none)))) else (none))
end
def arbiterref02_DescText.f (k : Nat) (l0_0 : List (S41)) (a0_1 : Bool) (a0_2 : Int) (a0_3 : ByteArray) : Option (ByteArray × Int) := arbiterref02_DescText.l0 k 0 l0_0 a0_1 a0_2 a0_3
set_option maxHeartbeats 8000000 in
set_option maxRecDepth 100000 in
theorem arbiterref02_DescText.calls (k : Nat) (A0_0 : Option Addr) (c0_0 : Nat) (l0_0 : List (S41)) (a0_1 : Bool) (a0_2 : Int) (a0_3 : ByteArray) (r1 : ByteArray) (r2 : Int) (w : World) (hr0_0 : Kd.C k41 w A0_0 l0_0.length l0_0) (hc0_0 : l0_0.length ≤ c0_0) (h : arbiterref02_DescText.f k l0_0 a0_1 a0_2 a0_3 = some (r1, r2)) :
  Calls Tryd.prog 26 #[.agg #[.slice A0_0 l0_0.length c0_0, .bool a0_1, .int .i64 a0_2, .string a0_3]] w fun e w' => e = .returned (.tuple #[.string r1, .int .i64 r2]) ∧ Below w.heap.size w w' := by
 have hu43 := Tryd.underlying43; have hu41 := Tryd.underlying41; have HR0_0 := Aside0.mk hr0_0; have HC0_0 := Aside0.mk hc0_0; clear hr0_0 hc0_0; have HB := Aside0.mk (Below.refl w.heap.size w); have H : (arbiterref02_DescText.l0 k 0 l0_0 a0_1 a0_2 a0_3) = some (r1, r2) := h; clear h; have H' := Aside0.mk H; clear H; go_enter Tryd.func26, Tryd.ntmps26; go_wp2_with (first | ((with_reducible refine gate_dst (N := 1) rfl ?_); refine eX 1 #[.slice A0_0 l0_0.length c0_0, .bool a0_1, .int .i64 a0_2, .string a0_3] 43 ?_; intro gb141 hg w2 hbox hb; have n0_ := Aside0.mk (below_step (bX HB) hb); have n1_ := Aside0.mk (hbox); have n2_ := Aside0.mk ((by rw [hg]; exact (below_size (bX HB)) : w.heap.size ≤ gb141)); have n3_ := Aside0.mk ((by rw [hg]; exact (below_size (bX HB)) : w.heap.size ≤ gb141)); clear HB; have HB := n0_; have BK141 := n1_; have GW141 := n2_; have GE141 := n3_; clear n0_ n1_ n2_ n3_; clear hb hbox hg))
 go_loopg [4] k (fun kq v4 w' => ∃ (x4_1 : Int), v4 = .int .i64 x4_1 ∧ Aside0 (arbiterref02_DescText.l0 kq x4_1 l0_0 a0_1 a0_2 a0_3 = some (r1, r2)) ∧ Aside0 (kq ≤ k) ∧ Aside0 (w'.heap[gb141]? = some (.cells #[(.slice A0_0 l0_0.length c0_0), .bool a0_1, .int .i64 a0_2, .string a0_3] 43 (0, 0))) ∧ Aside0 (Below w.heap.size w w'))
 case atStart => exact ⟨(0), vX, H', ⟨Nat.le_refl _⟩, ⟨by (with_reducible repeat (first | refine blk_drewN ?_ _ | refine blk_drew ?_ | refine blk_alloc ?_ _)); exact BK141.out⟩, ⟨bX1 HB GE141⟩⟩
 case round =>
  clear H'
  try clear c2
  try clear p2
  obtain ⟨x4_1, rfl, HA, HK1, BK141, HB⟩ := hrel
  cases gk with
  | zero => exact absurd HA.out (by simp [arbiterref02_DescText.l0])
  | succ k1 =>
   have H := HA.out; clear HA; simp only [arbiterref02_DescText.l0] at H
   by_cases c3 : x4_1 < (l0_0.length : Int)
   ·rw [if_pos c3] at H
    have c3b0 : decide (x4_1 < (l0_0.length : Int)) = true := decide_eq_true c3; clear c3
    by_cases c4 : 0 ≤ x4_1
    ·rw [if_pos c4] at H
     have c4b0 : decide (0 ≤ x4_1) = true := decide_eq_true c4; clear c4; replace H := Option.bind_eq_some_iff.mp H; obtain ⟨t143, A50, H⟩ := H; replace H : (if t143 = 0 then (arbiterref02_DescText.l0 k1 (wrap64 (x4_1 + 1)) l0_0 a0_1 a0_2 a0_3) else (some ((⟨#[]⟩ : ByteArray), 1))) = some (r1, r2) := H; have A5 := Aside0.mk A50; clear A50
     by_cases c6 : t143 = 0
     ·rw [if_pos c6] at H
      have c6b0 : (t143 == 0) = true := beq_iff_eq.mpr c6; have c6b1 : (t143 != 0) = false := bne_eq_false_iff_eq.mpr c6; clear c6; have H' := Aside0.mk H; clear H; obtain ⟨hcz7_0, hcz7_1, hcz7_2, hcz7_3, hfz7_0, hfz7_1, hfz7_2, hfz7_3⟩ := c4X BK141; have p142 : 0 ≤ (x4_1 : Int) := qX; have q142 : x4_1 < (l0_0.length : Int) := qX; obtain ⟨ad142, e142, hx142_0, hx142_1⟩ := at_T41 HR0_0.out x4_1 p142 q142
      cases e142
      replace hx142_0 := (HB.out.cell (World.block_lt_of_cell? w _ hx142_0)).trans hx142_0; replace hx142_1 := (HB.out.cell (World.block_lt_of_cell? w _ hx142_1)).trans hx142_1; replace p142 := eq_true p142; replace q142 := eq_true q142; go_wp2_with (first | ((with_reducible refine gate_callee (f := 56) rfl ?_); refine gX (some 19) Tryd.func56 #[.agg #[.int .i64 ((rd_T41 l0_0 x4_1).f0), .string ((rd_T41 l0_0 x4_1).f1)]] ?_; (with_reducible refine (arbiterref02_Check.calls ((rd_T41 l0_0 x4_1).f0) ((rd_T41 l0_0 x4_1).f1) t143 _ A5.out).mono ?_); rintro e w8 ⟨rfl, hb⟩; refine ⟨_, rfl, ?_⟩; have n0_ := Aside0.mk (blk_below (kX BK141) hb); have n1_ := Aside0.mk (below_step (bX1 HB GE141) hb); clear BK141; clear HB; have BK141 := n0_; have HB := n1_; clear n0_ n1_; (try clear hb); (try clear hb2); (try clear hk); (try clear hi)))
      go_roundg k1
      case measure => have := HK1.out; omega
      case rel => exact ⟨(wrap64 (x4_1 + 1)), vX, H', ⟨by have := HK1.out; omega⟩, ⟨by (with_reducible repeat (first | refine blk_drewN ?_ _ | refine blk_drew ?_ | refine blk_alloc ?_ _)); exact BK141.out⟩, ⟨bX1 HB GE141⟩⟩
     ·rw [if_neg c6] at H
      have c6b0 : (t143 == 0) = false := beq_eq_false_iff_ne.mpr c6; have c6b1 : (t143 != 0) = true := bne_iff_ne.mpr c6; simp only [Option.some.injEq, Prod.mk.injEq] at H; obtain ⟨rfl, rfl⟩ := H; obtain ⟨hcz9_0, hcz9_1, hcz9_2, hcz9_3, hfz9_0, hfz9_1, hfz9_2, hfz9_3⟩ := c4X BK141; have p142 : 0 ≤ (x4_1 : Int) := qX; have q142 : x4_1 < (l0_0.length : Int) := qX; obtain ⟨ad142, e142, hx142_0, hx142_1⟩ := at_T41 HR0_0.out x4_1 p142 q142
      cases e142
      replace hx142_0 := (HB.out.cell (World.block_lt_of_cell? w _ hx142_0)).trans hx142_0; replace hx142_1 := (HB.out.cell (World.block_lt_of_cell? w _ hx142_1)).trans hx142_1; replace p142 := eq_true p142; replace q142 := eq_true q142; go_wp2_with (first | ((with_reducible refine gate_callee (f := 56) rfl ?_); refine gX (some 19) Tryd.func56 #[.agg #[.int .i64 ((rd_T41 l0_0 x4_1).f0), .string ((rd_T41 l0_0 x4_1).f1)]] ?_; (with_reducible refine (arbiterref02_Check.calls ((rd_T41 l0_0 x4_1).f0) ((rd_T41 l0_0 x4_1).f1) t143 _ A5.out).mono ?_); rintro e w10 ⟨rfl, hb⟩; refine ⟨_, rfl, ?_⟩; have n0_ := Aside0.mk (blk_below (kX BK141) hb); have n1_ := Aside0.mk (below_step (bX1 HB GE141) hb); clear BK141; clear HB; have BK141 := n0_; have HB := n1_; clear n0_ n1_; (try clear hb); (try clear hb2); (try clear hk); (try clear hi))); go_ret2
      exact ⟨by first | rfl | (simp [errW_none, errW_some] <;> rfl) | (simp [*, errW_none, errW_some] <;> rfl), bX1 HB GE141⟩
    ·rw [if_neg c4] at H
     exact absurd H (by simp)
   ·rw [if_neg c3] at H
    have c3b0 : decide (x4_1 < (l0_0.length : Int)) = false := decide_eq_false c3; clear c3; have HC11 := Aside0.mk H; clear H; obtain ⟨hcz12_0, hcz12_1, hcz12_2, hcz12_3, hfz12_0, hfz12_1, hfz12_2, hfz12_3⟩ := c4X BK141
    go_upto_region 6 with (fail)
    go_cut [40] (fun v40 wc => ∃ (kq : Nat) (x40_10 : Bool), v40 = .bool x40_10 ∧ Aside0 (arbiterref02_DescText.j1 kq x40_10 l0_0 a0_1 a0_2 a0_3 = some (r1, r2)) ∧ Aside0 (kq ≤ k1) ∧ Aside0 (wc.heap[gb141]? = some (.cells #[(.slice A0_0 l0_0.length c0_0), .bool a0_1, .int .i64 a0_2, .string a0_3] 43 (0, 0))) ∧ Aside0 (Below w.heap.size w wc))
    case first =>
     have H := HC11.out; clear HC11; replace H := Option.bind_eq_some_iff.mp H; obtain ⟨t144, A130, H⟩ := H; replace H : (if t144 = 0 then (if a0_1 = true then (if a0_2 = 0 then (arbiterref02_DescText.j1 k1 (a0_3.toList != ([] : List UInt8)) l0_0 a0_1 a0_2 a0_3) else (arbiterref02_DescText.j1 k1 true l0_0 a0_1 a0_2 a0_3)) else (arbiterref02_DescText.j1 k1 false l0_0 a0_1 a0_2 a0_3)) else (arbiterref02_DescText.j1 k1 true l0_0 a0_1 a0_2 a0_3)) = some (r1, r2) := H; have A13 := Aside0.mk A130; clear A130
     by_cases c14 : t144 = 0
     ·rw [if_pos c14] at H
      have c14b0 : (t144 == 0) = true := beq_iff_eq.mpr c14; have c14b1 : (t144 != 0) = false := bne_eq_false_iff_eq.mpr c14; clear c14
      (first | rw [c14b0] | (simp only [i64_w, i32_w]; rw [c14b0]) | skip)
      by_cases c15 : a0_1 = true
      ·subst c15
       have H1 : (if a0_2 = 0 then (arbiterref02_DescText.j1 k1 (a0_3.toList != ([] : List UInt8)) l0_0 true a0_2 a0_3) else (arbiterref02_DescText.j1 k1 true l0_0 true a0_2 a0_3)) = some (r1, r2) := by rw [if_pos rfl] at H; exact H
       clear H; have H := H1; clear H1
       by_cases c16 : a0_2 = 0
       ·rw [if_pos c16] at H
        have c16b0 : (a0_2 == 0) = true := beq_iff_eq.mpr c16; have c16b1 : (a0_2 != 0) = false := bne_eq_false_iff_eq.mpr c16; clear c16; have H' := Aside0.mk H; clear H; obtain ⟨hcz17_0, hcz17_1, hcz17_2, hcz17_3, hfz17_0, hfz17_1, hfz17_2, hfz17_3⟩ := c4X BK141; go_wp2_with (first | ((with_reducible refine gate_callee (f := 56) rfl ?_); refine gX (some 23) Tryd.func56 #[.agg #[.int .i64 a0_2, .string a0_3]] ?_; (with_reducible refine (arbiterref02_Check.calls a0_2 a0_3 t144 _ A13.out).mono ?_); rintro e w18 ⟨rfl, hb⟩; refine ⟨_, rfl, ?_⟩; have n0_ := Aside0.mk (blk_below (kX BK141) hb); have n1_ := Aside0.mk (below_step (bX1 HB GE141) hb); clear BK141; clear HB; have BK141 := n0_; have HB := n1_; clear n0_ n1_; (try clear hb); (try clear hb2); (try clear hk); (try clear hi); obtain ⟨hcz19_0, hcz19_1, hcz19_2, hcz19_3, hfz19_0, hfz19_1, hfz19_2, hfz19_3⟩ := c4X BK141)); go_meet
        case rel => exact ⟨_, ((a0_3.toList != ([] : List UInt8))), (by first | rfl | (simp; done) | (simp [*]; done) | (cases a0_3.toList <;> simp; done) | (simp; cases a0_3.toList <;> rfl)), H', ⟨by have := HK1.out; first | omega | exact Nat.le_refl _⟩, ⟨by (with_reducible repeat (first | refine blk_drewN ?_ _ | refine blk_drew ?_ | refine blk_alloc ?_ _)); exact BK141.out⟩, ⟨bX1 HB GE141⟩⟩
       ·rw [if_neg c16] at H
        have c16b0 : (a0_2 == 0) = false := beq_eq_false_iff_ne.mpr c16; have c16b1 : (a0_2 != 0) = true := bne_iff_ne.mpr c16; have H' := Aside0.mk H; clear H; obtain ⟨hcz20_0, hcz20_1, hcz20_2, hcz20_3, hfz20_0, hfz20_1, hfz20_2, hfz20_3⟩ := c4X BK141; go_wp2_with (first | ((with_reducible refine gate_callee (f := 56) rfl ?_); refine gX (some 23) Tryd.func56 #[.agg #[.int .i64 a0_2, .string a0_3]] ?_; (with_reducible refine (arbiterref02_Check.calls a0_2 a0_3 t144 _ A13.out).mono ?_); rintro e w21 ⟨rfl, hb⟩; refine ⟨_, rfl, ?_⟩; have n0_ := Aside0.mk (blk_below (kX BK141) hb); have n1_ := Aside0.mk (below_step (bX1 HB GE141) hb); clear BK141; clear HB; have BK141 := n0_; have HB := n1_; clear n0_ n1_; (try clear hb); (try clear hb2); (try clear hk); (try clear hi); obtain ⟨hcz22_0, hcz22_1, hcz22_2, hcz22_3, hfz22_0, hfz22_1, hfz22_2, hfz22_3⟩ := c4X BK141)); go_meet
        case rel => exact ⟨_, (true), vX, H', ⟨by have := HK1.out; first | omega | exact Nat.le_refl _⟩, ⟨by (with_reducible repeat (first | refine blk_drewN ?_ _ | refine blk_drew ?_ | refine blk_alloc ?_ _)); exact BK141.out⟩, ⟨bX1 HB GE141⟩⟩
      ·replace c15 := Bool.eq_false_iff.mpr c15
       subst c15
       have H1 : (arbiterref02_DescText.j1 k1 false l0_0 false a0_2 a0_3) = some (r1, r2) := by rw [if_neg (show ¬ (false = true) by decide)] at H; exact H
       clear H; have H := H1; clear H1; have H' := Aside0.mk H; clear H; obtain ⟨hcz23_0, hcz23_1, hcz23_2, hcz23_3, hfz23_0, hfz23_1, hfz23_2, hfz23_3⟩ := c4X BK141; go_wp2_with (first | ((with_reducible refine gate_callee (f := 56) rfl ?_); refine gX (some 23) Tryd.func56 #[.agg #[.int .i64 a0_2, .string a0_3]] ?_; (with_reducible refine (arbiterref02_Check.calls a0_2 a0_3 t144 _ A13.out).mono ?_); rintro e w24 ⟨rfl, hb⟩; refine ⟨_, rfl, ?_⟩; have n0_ := Aside0.mk (blk_below (kX BK141) hb); have n1_ := Aside0.mk (below_step (bX1 HB GE141) hb); clear BK141; clear HB; have BK141 := n0_; have HB := n1_; clear n0_ n1_; (try clear hb); (try clear hb2); (try clear hk); (try clear hi); obtain ⟨hcz25_0, hcz25_1, hcz25_2, hcz25_3, hfz25_0, hfz25_1, hfz25_2, hfz25_3⟩ := c4X BK141)); go_meet
       case rel => exact ⟨_, (false), vX, H', ⟨by have := HK1.out; first | omega | exact Nat.le_refl _⟩, ⟨by (with_reducible repeat (first | refine blk_drewN ?_ _ | refine blk_drew ?_ | refine blk_alloc ?_ _)); exact BK141.out⟩, ⟨bX1 HB GE141⟩⟩
     ·rw [if_neg c14] at H
      have c14b0 : (t144 == 0) = false := beq_eq_false_iff_ne.mpr c14; have c14b1 : (t144 != 0) = true := bne_iff_ne.mpr c14
      (first | rw [c14b0] | (simp only [i64_w, i32_w]; rw [c14b0]) | skip)
      have H' := Aside0.mk H; clear H; obtain ⟨hcz26_0, hcz26_1, hcz26_2, hcz26_3, hfz26_0, hfz26_1, hfz26_2, hfz26_3⟩ := c4X BK141; go_wp2_with (first | ((with_reducible refine gate_callee (f := 56) rfl ?_); refine gX (some 23) Tryd.func56 #[.agg #[.int .i64 a0_2, .string a0_3]] ?_; (with_reducible refine (arbiterref02_Check.calls a0_2 a0_3 t144 _ A13.out).mono ?_); rintro e w27 ⟨rfl, hb⟩; refine ⟨_, rfl, ?_⟩; have n0_ := Aside0.mk (blk_below (kX BK141) hb); have n1_ := Aside0.mk (below_step (bX1 HB GE141) hb); clear BK141; clear HB; have BK141 := n0_; have HB := n1_; clear n0_ n1_; (try clear hb); (try clear hb2); (try clear hk); (try clear hi))); go_meet
      case rel => exact ⟨_, (true), vX, H', ⟨by have := HK1.out; first | omega | exact Nat.le_refl _⟩, ⟨by (with_reducible repeat (first | refine blk_drewN ?_ _ | refine blk_drew ?_ | refine blk_alloc ?_ _)); exact BK141.out⟩, ⟨bX1 HB GE141⟩⟩
    case rest =>
     clear HC11
     try clear c1
     try clear p1
     try clear q1
     try clear hx1
     try clear c2
     try clear p2
     try clear c3
     try clear c3b0
     try clear c4
     try clear c4b0
     try clear c5
     try clear c6
     try clear c6b0
     try clear c6b1
     try clear p6
     try clear c14
     try clear c14b0
     try clear c14b1
     try clear p14
     try clear q14
     try clear hx14
     try clear c15
     try clear c16
     try clear c16b0
     try clear c16b1
     try clear c26
     try clear hcz12_0 hcz12_1 hcz12_2 hcz12_3
     try clear hcz17_0 hcz17_1 hcz17_2 hcz17_3
     try clear hcz19_0 hcz19_1 hcz19_2 hcz19_3
     try clear hcz20_0 hcz20_1 hcz20_2 hcz20_3
     try clear hcz22_0 hcz22_1 hcz22_2 hcz22_3
     try clear hcz23_0 hcz23_1 hcz23_2 hcz23_3
     try clear hcz25_0 hcz25_1 hcz25_2 hcz25_3
     try clear hcz26_0 hcz26_1 hcz26_2 hcz26_3
     try clear hcz7_0 hcz7_1 hcz7_2 hcz7_3
     try clear hcz9_0 hcz9_1 hcz9_2 hcz9_3
     try clear hfz12_0 hfz12_1 hfz12_2 hfz12_3
     try clear hfz17_0 hfz17_1 hfz17_2 hfz17_3
     try clear hfz19_0 hfz19_1 hfz19_2 hfz19_3
     try clear hfz20_0 hfz20_1 hfz20_2 hfz20_3
     try clear hfz22_0 hfz22_1 hfz22_2 hfz22_3
     try clear hfz23_0 hfz23_1 hfz23_2 hfz23_3
     try clear hfz25_0 hfz25_1 hfz25_2 hfz25_3
     try clear hfz26_0 hfz26_1 hfz26_2 hfz26_3
     try clear hfz7_0 hfz7_1 hfz7_2 hfz7_3
     try clear hfz9_0 hfz9_1 hfz9_2 hfz9_3
     try clear hx142_0
     try clear hx142_1
     try clear p142
     try clear p2
     try clear q142
     obtain ⟨kq, x40_10, rfl, HA, HJ10, BK141, HB⟩ := hcut
     cases kq with
     | zero => exact absurd HA.out (by simp [arbiterref02_DescText.j1])
     | succ kj10 =>
      have H := HA.out; clear HA; simp only [arbiterref02_DescText.j1] at H
      by_cases c28 : x40_10 = true
      ·subst c28
       have H1 : (some ((⟨#[]⟩ : ByteArray), 1)) = some (r1, r2) := by rw [if_pos rfl] at H; exact H
       clear H; have H := H1; clear H1; simp only [Option.some.injEq, Prod.mk.injEq] at H; obtain ⟨rfl, rfl⟩ := H; go_wp2; go_ret2
       exact ⟨by first | rfl | (simp [errW_none, errW_some] <;> rfl) | (simp [*, errW_none, errW_some] <;> rfl), bX1 HB GE141⟩
      ·replace c28 := Bool.eq_false_iff.mpr c28
       subst c28
       have H1 : (if (l0_0.length : Int) > 20 then (some ((⟨#[]⟩ : ByteArray), 5)) else (arbiterref02_DescText.l1 kj10 (⟨#[40]⟩ : ByteArray) 0 l0_0 a0_1 a0_2 a0_3)) = some (r1, r2) := by rw [if_neg (show ¬ (false = true) by decide)] at H; exact H
       clear H; have H := H1; clear H1
       by_cases c29 : (l0_0.length : Int) > 20
       ·rw [if_pos c29] at H
        have c29b0 : decide (20 < (l0_0.length : Int)) = true := decide_eq_true c29; have c29b1 : decide (20 < l0_0.length) = true := decide_eq_true (by omega); clear c29; simp only [Option.some.injEq, Prod.mk.injEq] at H; obtain ⟨rfl, rfl⟩ := H; obtain ⟨hcz30_0, hcz30_1, hcz30_2, hcz30_3, hfz30_0, hfz30_1, hfz30_2, hfz30_3⟩ := c4X BK141; go_wp2; go_ret2
        exact ⟨by first | rfl | (simp [errW_none, errW_some] <;> rfl) | (simp [*, errW_none, errW_some] <;> rfl), bX1 HB GE141⟩
       ·rw [if_neg c29] at H
        have c29b0 : decide (20 < (l0_0.length : Int)) = false := decide_eq_false c29; have c29b1 : decide (20 < l0_0.length) = false := decide_eq_false (by omega); clear c29; have H' := Aside0.mk H; clear H; obtain ⟨hcz31_0, hcz31_1, hcz31_2, hcz31_3, hfz31_0, hfz31_1, hfz31_2, hfz31_3⟩ := c4X BK141; go_wp2
        go_loopg [5, 6] kj10 (fun kq v5 v6 w' => ∃ (x5_3 : ByteArray) (x6_3 : Int), v5 = .string x5_3 ∧ v6 = .int .i64 x6_3 ∧ Aside0 (arbiterref02_DescText.l1 kq x5_3 x6_3 l0_0 a0_1 a0_2 a0_3 = some (r1, r2)) ∧ Aside0 (kq ≤ kj10) ∧ Aside0 (w'.heap[gb141]? = some (.cells #[(.slice A0_0 l0_0.length c0_0), .bool a0_1, .int .i64 a0_2, .string a0_3] 43 (0, 0))) ∧ Aside0 (Below w.heap.size w w'))
        case atStart => exact ⟨((⟨#[40]⟩ : ByteArray)), (0), vX, vX, H', ⟨Nat.le_refl _⟩, ⟨by (with_reducible repeat (first | refine blk_drewN ?_ _ | refine blk_drew ?_ | refine blk_alloc ?_ _)); exact BK141.out⟩, ⟨bX1 HB GE141⟩⟩
        case round =>
         clear H'
         try clear c1
         try clear p1
         try clear q1
         try clear hx1
         try clear c2
         try clear p2
         try clear c3
         try clear c3b0
         try clear c4
         try clear c4b0
         try clear c5
         try clear c6
         try clear c6b0
         try clear c6b1
         try clear p6
         try clear c14
         try clear c14b0
         try clear c14b1
         try clear p14
         try clear q14
         try clear hx14
         try clear c15
         try clear c16
         try clear c16b0
         try clear c16b1
         try clear c26
         try clear c28
         try clear c29
         try clear c29b0
         try clear c29b1
         try clear hcz12_0 hcz12_1 hcz12_2 hcz12_3
         try clear hcz17_0 hcz17_1 hcz17_2 hcz17_3
         try clear hcz19_0 hcz19_1 hcz19_2 hcz19_3
         try clear hcz20_0 hcz20_1 hcz20_2 hcz20_3
         try clear hcz22_0 hcz22_1 hcz22_2 hcz22_3
         try clear hcz23_0 hcz23_1 hcz23_2 hcz23_3
         try clear hcz25_0 hcz25_1 hcz25_2 hcz25_3
         try clear hcz26_0 hcz26_1 hcz26_2 hcz26_3
         try clear hcz30_0 hcz30_1 hcz30_2 hcz30_3
         try clear hcz31_0 hcz31_1 hcz31_2 hcz31_3
         try clear hcz7_0 hcz7_1 hcz7_2 hcz7_3
         try clear hcz9_0 hcz9_1 hcz9_2 hcz9_3
         try clear hfz12_0 hfz12_1 hfz12_2 hfz12_3
         try clear hfz17_0 hfz17_1 hfz17_2 hfz17_3
         try clear hfz19_0 hfz19_1 hfz19_2 hfz19_3
         try clear hfz20_0 hfz20_1 hfz20_2 hfz20_3
         try clear hfz22_0 hfz22_1 hfz22_2 hfz22_3
         try clear hfz23_0 hfz23_1 hfz23_2 hfz23_3
         try clear hfz25_0 hfz25_1 hfz25_2 hfz25_3
         try clear hfz26_0 hfz26_1 hfz26_2 hfz26_3
         try clear hfz30_0 hfz30_1 hfz30_2 hfz30_3
         try clear hfz31_0 hfz31_1 hfz31_2 hfz31_3
         try clear hfz7_0 hfz7_1 hfz7_2 hfz7_3
         try clear hfz9_0 hfz9_1 hfz9_2 hfz9_3
         try clear hx142_0
         try clear hx142_1
         try clear p1
         try clear p14
         try clear p142
         try clear p2
         try clear p6
         try clear q1
         try clear q14
         try clear q142
         obtain ⟨x5_3, x6_3, rfl, rfl, HA, HK3, BK141, HB⟩ := hrel
         cases gk with
         | zero => exact absurd HA.out (by simp [arbiterref02_DescText.l1])
         | succ k3 =>
          have H := HA.out; clear HA; simp only [arbiterref02_DescText.l1] at H
          by_cases c32 : x6_3 < (l0_0.length : Int)
          ·rw [if_pos c32] at H
           have c32b0 : decide (x6_3 < (l0_0.length : Int)) = true := decide_eq_true c32; clear c32
           by_cases c33 : 0 ≤ x6_3
           ·rw [if_pos c33] at H
            have c33b0 : decide (0 ≤ x6_3) = true := decide_eq_true c33; clear c33; replace H := Option.bind_eq_some_iff.mp H; obtain ⟨t146, A340, H⟩ := H; replace H : (if x5_3.size + t146.size ≤ 9223372036854775807 then (arbiterref02_DescText.l1 k3 (x5_3 ++ t146) (wrap64 (x6_3 + 1)) l0_0 a0_1 a0_2 a0_3) else (none)) = some (r1, r2) := H; have A34 := Aside0.mk A340; clear A340
            by_cases c35 : x5_3.size + t146.size ≤ 9223372036854775807
            ·rw [if_pos c35] at H
             have c35b0 := eq_true c35; have c35b1 : decide (x5_3.size + t146.size ≤ 9223372036854775807) = true := decide_eq_true c35
             try have c35b2 : (9223372036854775807 < x5_3.size + t146.size) = False := eq_false (Nat.not_lt.2 c35)
             have H' := Aside0.mk H; clear H; obtain ⟨hcz36_0, hcz36_1, hcz36_2, hcz36_3, hfz36_0, hfz36_1, hfz36_2, hfz36_3⟩ := c4X BK141; have p145 : 0 ≤ (x6_3 : Int) := qX; have q145 : x6_3 < (l0_0.length : Int) := qX; obtain ⟨ad145, e145, hx145_0, hx145_1⟩ := at_T41 HR0_0.out x6_3 p145 q145
             cases e145
             replace hx145_0 := (HB.out.cell (World.block_lt_of_cell? w _ hx145_0)).trans hx145_0; replace hx145_1 := (HB.out.cell (World.block_lt_of_cell? w _ hx145_1)).trans hx145_1; replace p145 := eq_true p145; replace q145 := eq_true q145; go_wp2_with (first | ((with_reducible refine gate_callee (f := 57) rfl ?_); refine gX (some 58) Tryd.func57 #[.agg #[.int .i64 ((rd_T41 l0_0 x6_3).f0), .string ((rd_T41 l0_0 x6_3).f1)]] ?_; (with_reducible refine (arbiterref02_written.calls k3 ((rd_T41 l0_0 x6_3).f0) ((rd_T41 l0_0 x6_3).f1) t146 _ A34.out).mono ?_); rintro e w37 ⟨rfl, hb⟩; refine ⟨_, rfl, ?_⟩; have n0_ := Aside0.mk (blk_below (kX BK141) hb); have n1_ := Aside0.mk (below_step (bX1 HB GE141) hb); clear BK141; clear HB; have BK141 := n0_; have HB := n1_; clear n0_ n1_; (try clear hb); (try clear hb2); (try clear hk); (try clear hi)))
             go_roundg k3
             case measure => have := HK1.out; have := HJ10.out; have := HK3.out; omega
             case rel => exact ⟨(x5_3 ++ t146), (wrap64 (x6_3 + 1)), vX, vX, H', ⟨by have := HK1.out; have := HJ10.out; have := HK3.out; omega⟩, ⟨by (with_reducible repeat (first | refine blk_drewN ?_ _ | refine blk_drew ?_ | refine blk_alloc ?_ _)); exact BK141.out⟩, ⟨bX1 HB GE141⟩⟩
            ·rw [if_neg c35] at H
             exact absurd H (by simp)
           ·rw [if_neg c33] at H
            exact absurd H (by simp)
          ·rw [if_neg c32] at H
           have c32b0 : decide (x6_3 < (l0_0.length : Int)) = false := decide_eq_false c32; clear c32
           by_cases c38 : x5_3.size + 1 ≤ 9223372036854775807
           ·rw [if_pos c38] at H
            have c38b0 := eq_true c38; have c38b1 : decide (x5_3.size + 1 ≤ 9223372036854775807) = true := decide_eq_true c38
            try have c38b2 : (9223372036854775807 < x5_3.size + 1) = False := eq_false (Nat.not_lt.2 c38)
            by_cases c39 : a0_1 = true
            ·subst c39
             have H1 : (if (x5_3 ++ (⟨#[41]⟩ : ByteArray)).size + 1 ≤ 9223372036854775807 then (if (((x5_3 ++ (⟨#[41]⟩ : ByteArray)) ++ (⟨#[86]⟩ : ByteArray)).size : Int) > 2000 then (some ((⟨#[]⟩ : ByteArray), 5)) else (some ((x5_3 ++ (⟨#[41]⟩ : ByteArray)) ++ (⟨#[86]⟩ : ByteArray), 0))) else (none)) = some (r1, r2) := by rw [if_pos rfl] at H; exact H
             clear H; have H := H1; clear H1
             by_cases c40 : (x5_3 ++ (⟨#[41]⟩ : ByteArray)).size + 1 ≤ 9223372036854775807
             ·rw [if_pos c40] at H
              have c40b0 := eq_true c40; have c40b1 : decide ((x5_3 ++ (⟨#[41]⟩ : ByteArray)).size + 1 ≤ 9223372036854775807) = true := decide_eq_true c40
              try have c40b2 : (9223372036854775807 < (x5_3 ++ (⟨#[41]⟩ : ByteArray)).size + 1) = False := eq_false (Nat.not_lt.2 c40)
              try have c40s := c40
              try simp only [ByteArray.size_append, show (⟨#[41]⟩ : ByteArray).size = 1 from rfl] at c40s
              try have c40sb := eq_true c40s
              try have c40sc := eq_false (Nat.not_lt.2 c40s)
              try clear c40s
              by_cases c41 : (((x5_3 ++ (⟨#[41]⟩ : ByteArray)) ++ (⟨#[86]⟩ : ByteArray)).size : Int) > 2000
              ·rw [if_pos c41] at H
               have c41b0 : decide (2000 < (((x5_3 ++ (⟨#[41]⟩ : ByteArray)) ++ (⟨#[86]⟩ : ByteArray)).size : Int)) = true := decide_eq_true c41; have c41b1 : decide (2000 < ((x5_3 ++ (⟨#[41]⟩ : ByteArray)) ++ (⟨#[86]⟩ : ByteArray)).size) = true := decide_eq_true (by omega)
               have c41h0 : 2000 < ((x5_3.size : Int) + 1 + 1) := by have hs_ := c41b1; simp only [ByteArray.size_append, show (⟨#[41]⟩ : ByteArray).size = 1 from rfl, show (⟨#[86]⟩ : ByteArray).size = 1 from rfl, decide_eq_true_eq, decide_eq_false_iff_not] at hs_; omega
               have c41h1 := eq_true c41h0; have c41h2 : (((x5_3.size : Int) + 1 + 1) ≤ 2000) = False := eq_false (by omega); have c41h3 : decide (2000 < ((x5_3.size : Int) + 1 + 1)) = true := decide_eq_true c41h0; have c41h4 : (2000 < (x5_3.size + 1 + 1)) = True := eq_true (by omega); have c41h5 : ((x5_3.size + 1 + 1) ≤ 2000) = False := eq_false (by omega); clear c41h0; clear c41; simp only [Option.some.injEq, Prod.mk.injEq] at H; obtain ⟨rfl, rfl⟩ := H; obtain ⟨hcz42_0, hcz42_1, hcz42_2, hcz42_3, hfz42_0, hfz42_1, hfz42_2, hfz42_3⟩ := c4X BK141; go_wp2; go_ret2
               exact ⟨by first | rfl | (simp [errW_none, errW_some] <;> rfl) | (simp [*, errW_none, errW_some] <;> rfl), bX1 HB GE141⟩
              ·rw [if_neg c41] at H
               have c41b0 : decide (2000 < (((x5_3 ++ (⟨#[41]⟩ : ByteArray)) ++ (⟨#[86]⟩ : ByteArray)).size : Int)) = false := decide_eq_false c41; have c41b1 : decide (2000 < ((x5_3 ++ (⟨#[41]⟩ : ByteArray)) ++ (⟨#[86]⟩ : ByteArray)).size) = false := decide_eq_false (by omega)
               have c41h0 : ((x5_3.size : Int) + 1 + 1) ≤ 2000 := by have hs_ := c41b1; simp only [ByteArray.size_append, show (⟨#[41]⟩ : ByteArray).size = 1 from rfl, show (⟨#[86]⟩ : ByteArray).size = 1 from rfl, decide_eq_true_eq, decide_eq_false_iff_not] at hs_; omega
               have c41h1 := eq_true c41h0; have c41h2 : (2000 < ((x5_3.size : Int) + 1 + 1)) = False := eq_false (by omega); have c41h3 : decide (2000 < ((x5_3.size : Int) + 1 + 1)) = false := decide_eq_false (by omega); have c41h4 : ((x5_3.size + 1 + 1) ≤ 2000) = True := eq_true (by omega); have c41h5 : (2000 < (x5_3.size + 1 + 1)) = False := eq_false (by omega); clear c41h0; clear c41; simp only [Option.some.injEq, Prod.mk.injEq] at H; obtain ⟨rfl, rfl⟩ := H; obtain ⟨hcz43_0, hcz43_1, hcz43_2, hcz43_3, hfz43_0, hfz43_1, hfz43_2, hfz43_3⟩ := c4X BK141; go_wp2; go_ret2
               exact ⟨by first | rfl | (simp [errW_none, errW_some] <;> rfl) | (simp [*, errW_none, errW_some] <;> rfl), bX1 HB GE141⟩
             ·rw [if_neg c40] at H
              exact absurd H (by simp)
            ·replace c39 := Bool.eq_false_iff.mpr c39
             subst c39
             have H1 : ((arbiterref02_written.f k3 a0_2 a0_3).bind fun t147 => (if (x5_3 ++ (⟨#[41]⟩ : ByteArray)).size + t147.size ≤ 9223372036854775807 then (if (((x5_3 ++ (⟨#[41]⟩ : ByteArray)) ++ t147).size : Int) > 2000 then (some ((⟨#[]⟩ : ByteArray), 5)) else (some ((x5_3 ++ (⟨#[41]⟩ : ByteArray)) ++ t147, 0))) else (none))) = some (r1, r2) := by rw [if_neg (show ¬ (false = true) by decide)] at H; exact H
             clear H; have H := H1; clear H1; replace H := Option.bind_eq_some_iff.mp H; obtain ⟨t147, A440, H⟩ := H; replace H : (if (x5_3 ++ (⟨#[41]⟩ : ByteArray)).size + t147.size ≤ 9223372036854775807 then (if (((x5_3 ++ (⟨#[41]⟩ : ByteArray)) ++ t147).size : Int) > 2000 then (some ((⟨#[]⟩ : ByteArray), 5)) else (some ((x5_3 ++ (⟨#[41]⟩ : ByteArray)) ++ t147, 0))) else (none)) = some (r1, r2) := H; have A44 := Aside0.mk A440; clear A440
             by_cases c45 : (x5_3 ++ (⟨#[41]⟩ : ByteArray)).size + t147.size ≤ 9223372036854775807
             ·rw [if_pos c45] at H
              have c45b0 := eq_true c45; have c45b1 : decide ((x5_3 ++ (⟨#[41]⟩ : ByteArray)).size + t147.size ≤ 9223372036854775807) = true := decide_eq_true c45
              try have c45b2 : (9223372036854775807 < (x5_3 ++ (⟨#[41]⟩ : ByteArray)).size + t147.size) = False := eq_false (Nat.not_lt.2 c45)
              try have c45s := c45
              try simp only [ByteArray.size_append, show (⟨#[41]⟩ : ByteArray).size = 1 from rfl] at c45s
              try have c45sb := eq_true c45s
              try have c45sc := eq_false (Nat.not_lt.2 c45s)
              try clear c45s
              by_cases c46 : (((x5_3 ++ (⟨#[41]⟩ : ByteArray)) ++ t147).size : Int) > 2000
              ·rw [if_pos c46] at H
               have c46b0 : decide (2000 < (((x5_3 ++ (⟨#[41]⟩ : ByteArray)) ++ t147).size : Int)) = true := decide_eq_true c46; have c46b1 : decide (2000 < ((x5_3 ++ (⟨#[41]⟩ : ByteArray)) ++ t147).size) = true := decide_eq_true (by omega)
               have c46h0 : 2000 < ((x5_3.size : Int) + 1 + (t147.size : Int)) := by have hs_ := c46b1; simp only [ByteArray.size_append, show (⟨#[41]⟩ : ByteArray).size = 1 from rfl, show (⟨#[86]⟩ : ByteArray).size = 1 from rfl, decide_eq_true_eq, decide_eq_false_iff_not] at hs_; omega
               have c46h1 := eq_true c46h0; have c46h2 : (((x5_3.size : Int) + 1 + (t147.size : Int)) ≤ 2000) = False := eq_false (by omega); have c46h3 : decide (2000 < ((x5_3.size : Int) + 1 + (t147.size : Int))) = true := decide_eq_true c46h0; have c46h4 : (2000 < (x5_3.size + 1 + t147.size)) = True := eq_true (by omega); have c46h5 : ((x5_3.size + 1 + t147.size) ≤ 2000) = False := eq_false (by omega); clear c46h0; clear c46; simp only [Option.some.injEq, Prod.mk.injEq] at H; obtain ⟨rfl, rfl⟩ := H; obtain ⟨hcz47_0, hcz47_1, hcz47_2, hcz47_3, hfz47_0, hfz47_1, hfz47_2, hfz47_3⟩ := c4X BK141; go_wp2_with (first | ((with_reducible refine gate_callee (f := 57) rfl ?_); refine gX (some 69) Tryd.func57 #[.agg #[.int .i64 a0_2, .string a0_3]] ?_; (with_reducible refine (arbiterref02_written.calls k3 a0_2 a0_3 t147 _ A44.out).mono ?_); rintro e w48 ⟨rfl, hb⟩; refine ⟨_, rfl, ?_⟩; have n0_ := Aside0.mk (blk_below (kX BK141) hb); have n1_ := Aside0.mk (below_step (bX1 HB GE141) hb); clear BK141; clear HB; have BK141 := n0_; have HB := n1_; clear n0_ n1_; (try clear hb); (try clear hb2); (try clear hk); (try clear hi))); go_ret2
               exact ⟨by first | rfl | (simp [errW_none, errW_some] <;> rfl) | (simp [*, errW_none, errW_some] <;> rfl), bX1 HB GE141⟩
              ·rw [if_neg c46] at H
               have c46b0 : decide (2000 < (((x5_3 ++ (⟨#[41]⟩ : ByteArray)) ++ t147).size : Int)) = false := decide_eq_false c46; have c46b1 : decide (2000 < ((x5_3 ++ (⟨#[41]⟩ : ByteArray)) ++ t147).size) = false := decide_eq_false (by omega)
               have c46h0 : ((x5_3.size : Int) + 1 + (t147.size : Int)) ≤ 2000 := by have hs_ := c46b1; simp only [ByteArray.size_append, show (⟨#[41]⟩ : ByteArray).size = 1 from rfl, show (⟨#[86]⟩ : ByteArray).size = 1 from rfl, decide_eq_true_eq, decide_eq_false_iff_not] at hs_; omega
               have c46h1 := eq_true c46h0; have c46h2 : (2000 < ((x5_3.size : Int) + 1 + (t147.size : Int))) = False := eq_false (by omega); have c46h3 : decide (2000 < ((x5_3.size : Int) + 1 + (t147.size : Int))) = false := decide_eq_false (by omega); have c46h4 : ((x5_3.size + 1 + t147.size) ≤ 2000) = True := eq_true (by omega); have c46h5 : (2000 < (x5_3.size + 1 + t147.size)) = False := eq_false (by omega); clear c46h0; clear c46; simp only [Option.some.injEq, Prod.mk.injEq] at H; obtain ⟨rfl, rfl⟩ := H; obtain ⟨hcz49_0, hcz49_1, hcz49_2, hcz49_3, hfz49_0, hfz49_1, hfz49_2, hfz49_3⟩ := c4X BK141; go_wp2_with (first | ((with_reducible refine gate_callee (f := 57) rfl ?_); refine gX (some 69) Tryd.func57 #[.agg #[.int .i64 a0_2, .string a0_3]] ?_; (with_reducible refine (arbiterref02_written.calls k3 a0_2 a0_3 t147 _ A44.out).mono ?_); rintro e w50 ⟨rfl, hb⟩; refine ⟨_, rfl, ?_⟩; have n0_ := Aside0.mk (blk_below (kX BK141) hb); have n1_ := Aside0.mk (below_step (bX1 HB GE141) hb); clear BK141; clear HB; have BK141 := n0_; have HB := n1_; clear n0_ n1_; (try clear hb); (try clear hb2); (try clear hk); (try clear hi))); go_ret2
               exact ⟨by first | rfl | (simp [errW_none, errW_some] <;> rfl) | (simp [*, errW_none, errW_some] <;> rfl), bX1 HB GE141⟩
             ·rw [if_neg c45] at H
              exact absurd H (by simp)
           ·rw [if_neg c38] at H
            exact absurd H (by simp)
end Go.Proofs.YtajplppeijmfpaaDoor.Pt

namespace Go.Proofs.YtajplppeijmfpaaDoor.Pt
open Go.RowKit Go.Proofs.YtajplppeijmfpaaDoorW.PrintWords Go.Proofs.YtajplppeijmfpaaDoorW.PrintLast Go.Proofs.YtajplppeijmfpaaDoorW.PrintMore
attribute [local go_sem] max2_int min2_int max_two min_two max_three min_three max_four min_four   -- for this text's walks alone
set_option linter.unusedVariables false
set_option linter.unusedSimpArgs false
def arbiterlaw02_awake.f  : Option (Bool) := (types_Parse.f (⟨#[91, 76, 112, 47, 65, 59]⟩ : ByteArray)).bind fun bt101 => (if bt101.2.2 = 0 then (if bt101.1 = 1 then (some (bt101.2.1.toList == ([112, 47, 65] : List UInt8))) else (some false)) else (some false))
set_option maxHeartbeats 8000000 in
set_option maxRecDepth 100000 in
theorem arbiterlaw02_awake.calls  (r : Bool) (w : World) (h : arbiterlaw02_awake.f  = some r) :
  Calls Tryd.prog 24 #[] w fun e w' => e = .returned (.bool r) ∧ Below w.heap.size w w' := by
 have hu41 := Tryd.underlying41; have HB := Aside0.mk (Below.refl w.heap.size w); have H : ((types_Parse.f (⟨#[91, 76, 112, 47, 65, 59]⟩ : ByteArray)).bind fun bt101 => (if bt101.2.2 = 0 then (if bt101.1 = 1 then (some (bt101.2.1.toList == ([112, 47, 65] : List UInt8))) else (some false)) else (some false))) = some r := h; clear h; replace H := Option.bind_eq_some_iff.mp H; obtain ⟨⟨t101, t102, t103⟩, A10, H⟩ := H; replace H : (if t103 = 0 then (if t101 = 1 then (some (t102.toList == ([112, 47, 65] : List UInt8))) else (some false)) else (some false)) = some r := H; have A1 := Aside0.mk A10; clear A10
 by_cases c2 : t103 = 0
 ·rw [if_pos c2] at H
  have c2b0 : (t103 == 0) = true := beq_iff_eq.mpr c2; have c2b1 : (t103 != 0) = false := bne_eq_false_iff_eq.mpr c2; clear c2
  by_cases c3 : t101 = 1
  ·rw [if_pos c3] at H
   have c3b0 : (t101 == 1) = true := beq_iff_eq.mpr c3; have c3b1 : (t101 != 1) = false := bne_eq_false_iff_eq.mpr c3; clear c3; obtain rfl := Option.some.inj H; go_enter Tryd.func24, Tryd.ntmps24; go_wp2_with (first | ((with_reducible refine gate_callee (f := 30) rfl ?_); refine gX (some 4) Tryd.func30 #[.string (⟨#[91, 76, 112, 47, 65, 59]⟩ : ByteArray)] ?_; (with_reducible refine (types_Parse.calls (⟨#[91, 76, 112, 47, 65, 59]⟩ : ByteArray) t101 t102 t103 _ A1.out).mono ?_); rintro e w4 ⟨rfl, hb⟩; refine ⟨_, rfl, ?_⟩; have n0_ := Aside0.mk (below_step (bX HB) hb); clear HB; have HB := n0_; clear n0_; (try clear hb); (try clear hb2); (try clear hk); (try clear hi)) | ((with_reducible refine gate_dst (N := 1) rfl ?_); refine eX 1 #[.int .i64 0, .string (⟨#[]⟩ : ByteArray)] 41 ?_; intro gb104 hg w5 hbox hb; have n0_ := Aside0.mk (below_step (bX HB) hb); have n1_ := Aside0.mk (hbox); have n2_ := Aside0.mk ((by rw [hg]; exact (below_size (bX HB)) : w.heap.size ≤ gb104)); have n3_ := Aside0.mk ((by rw [hg]; exact (below_size (bX HB)) : w.heap.size ≤ gb104)); clear HB; have HB := n0_; have BK104 := n1_; have GW104 := n2_; have GE104 := n3_; clear n0_ n1_ n2_ n3_; clear hb hbox hg; obtain ⟨hcz6_0, hcz6_1, hfz6_0, hfz6_1⟩ := c2X BK104)); go_ret
   exact ⟨by first | rfl | (simp [errW_none, errW_some] <;> rfl) | (simp [*, errW_none, errW_some] <;> rfl), bX1 HB GE104⟩
  ·rw [if_neg c3] at H
   have c3b0 : (t101 == 1) = false := beq_eq_false_iff_ne.mpr c3; have c3b1 : (t101 != 1) = true := bne_iff_ne.mpr c3; obtain rfl := Option.some.inj H; go_enter Tryd.func24, Tryd.ntmps24; go_wp2_with (first | ((with_reducible refine gate_callee (f := 30) rfl ?_); refine gX (some 4) Tryd.func30 #[.string (⟨#[91, 76, 112, 47, 65, 59]⟩ : ByteArray)] ?_; (with_reducible refine (types_Parse.calls (⟨#[91, 76, 112, 47, 65, 59]⟩ : ByteArray) t101 t102 t103 _ A1.out).mono ?_); rintro e w7 ⟨rfl, hb⟩; refine ⟨_, rfl, ?_⟩; have n0_ := Aside0.mk (below_step (bX HB) hb); clear HB; have HB := n0_; clear n0_; (try clear hb); (try clear hb2); (try clear hk); (try clear hi)) | ((with_reducible refine gate_dst (N := 1) rfl ?_); refine eX 1 #[.int .i64 0, .string (⟨#[]⟩ : ByteArray)] 41 ?_; intro gb104 hg w8 hbox hb; have n0_ := Aside0.mk (below_step (bX HB) hb); have n1_ := Aside0.mk (hbox); have n2_ := Aside0.mk ((by rw [hg]; exact (below_size (bX HB)) : w.heap.size ≤ gb104)); have n3_ := Aside0.mk ((by rw [hg]; exact (below_size (bX HB)) : w.heap.size ≤ gb104)); clear HB; have HB := n0_; have BK104 := n1_; have GW104 := n2_; have GE104 := n3_; clear n0_ n1_ n2_ n3_; clear hb hbox hg; obtain ⟨hcz9_0, hcz9_1, hfz9_0, hfz9_1⟩ := c2X BK104)); go_ret
   exact ⟨by first | rfl | (simp [errW_none, errW_some] <;> rfl) | (simp [*, errW_none, errW_some] <;> rfl), bX1 HB GE104⟩
 ·rw [if_neg c2] at H
  have c2b0 : (t103 == 0) = false := beq_eq_false_iff_ne.mpr c2; have c2b1 : (t103 != 0) = true := bne_iff_ne.mpr c2; obtain rfl := Option.some.inj H; go_enter Tryd.func24, Tryd.ntmps24; go_wp2_with (first | ((with_reducible refine gate_callee (f := 30) rfl ?_); refine gX (some 4) Tryd.func30 #[.string (⟨#[91, 76, 112, 47, 65, 59]⟩ : ByteArray)] ?_; (with_reducible refine (types_Parse.calls (⟨#[91, 76, 112, 47, 65, 59]⟩ : ByteArray) t101 t102 t103 _ A1.out).mono ?_); rintro e w10 ⟨rfl, hb⟩; refine ⟨_, rfl, ?_⟩; have n0_ := Aside0.mk (below_step (bX HB) hb); clear HB; have HB := n0_; clear n0_; (try clear hb); (try clear hb2); (try clear hk); (try clear hi)) | ((with_reducible refine gate_dst (N := 1) rfl ?_); refine eX 1 #[.int .i64 0, .string (⟨#[]⟩ : ByteArray)] 41 ?_; intro gb104 hg w11 hbox hb; have n0_ := Aside0.mk (below_step (bX HB) hb); have n1_ := Aside0.mk (hbox); have n2_ := Aside0.mk ((by rw [hg]; exact (below_size (bX HB)) : w.heap.size ≤ gb104)); have n3_ := Aside0.mk ((by rw [hg]; exact (below_size (bX HB)) : w.heap.size ≤ gb104)); clear HB; have HB := n0_; have BK104 := n1_; have GW104 := n2_; have GE104 := n3_; clear n0_ n1_ n2_ n3_; clear hb hbox hg; obtain ⟨hcz12_0, hcz12_1, hfz12_0, hfz12_1⟩ := c2X BK104)); go_ret
  exact ⟨by first | rfl | (simp [errW_none, errW_some] <;> rfl) | (simp [*, errW_none, errW_some] <;> rfl), bX1 HB GE104⟩
mutual
def arbiterlaw02_TypesTexts.j0 : Nat → ByteArray → Option (Bool)
 | 0, _ => none
 | k + 1, x0 => (types_ParseRef.f x0).bind fun bt112 => (if bt112.2.2 = 0 then ((types_RefText.f bt112.1 bt112.2.1).bind fun bt115 => (if bt115.1.toList = x0.toList then (if bt115.2 = 0 then (arbiterlaw02_TypesTexts.j1 k x0) else (some false)) else (some false))) else (arbiterlaw02_TypesTexts.j1 k x0))
def arbiterlaw02_TypesTexts.j1 : Nat → ByteArray → Option (Bool)
 | 0, _ => none
 | k + 1, x0 => (types_ParseDesc.f x0).bind fun bt117 => ((types_Args.f x0).bind fun bt125 => (if bt117.2.2.2.2 = bt125.2 then (arbiterlaw02_TypesTexts.j2 k x0 bt117.2.2.2.2 (bt125.1 != (bt117.1.length : Int)) bt117.1 bt117.2.1 bt117.2.2.1 bt117.2.2.2.1) else (arbiterlaw02_TypesTexts.j2 k x0 bt117.2.2.2.2 true bt117.1 bt117.2.1 bt117.2.2.1 bt117.2.2.2.1)))
def arbiterlaw02_TypesTexts.j2 : Nat → ByteArray → Int → Bool → List (S41) → Bool → Int → ByteArray → Option (Bool)
 | 0, _, _, _, _, _, _, _ => none
 | k + 1, x0, x4, x73, x125000, x125001, x125002, x125003 => if x73 = true then (some false) else (if x4 = 0 then ((types_DescText.f x125000 x125001 x125002 x125003).bind fun bt127 => (if bt127.1.toList = x0.toList then (some (bt127.2 == 0)) else (some false))) else (if x4 = 4 then (some true) else (some (x4 == 5))))
end
def arbiterlaw02_TypesTexts.f (k : Nat) (a0 : ByteArray) : Option (Bool) := (arbiterlaw02_awake.f).bind fun t105 => (if t105 = true then ((types_Parse.f a0).bind fun bt106 => (if bt106.2.2 = 0 then ((types_Text.f bt106.1 bt106.2.1).bind fun bt110 => (if bt110.1.toList = a0.toList then (if bt110.2 = 0 then (arbiterlaw02_TypesTexts.j0 k a0) else (some false)) else (some false))) else (arbiterlaw02_TypesTexts.j0 k a0))) else (some false))
end Go.Proofs.YtajplppeijmfpaaDoor.Pt

namespace Go.Proofs.YtajplppeijmfpaaDoor.Pt
open Go Go.RowKit Go.Proofs.YtajplppeijmfpaaDoor.Nm Go.Proofs.YtajplppeijmfpaaDoor.Ty
set_option linter.unusedVariables false
set_option linter.unusedSimpArgs false
def okN (nm : List UInt8) : Prop := nm = [] ∨ validB (bs nm) = true
theorem tx_awake : arbiterlaw02_awake.f = some true := by decide +kernel
end Go.Proofs.YtajplppeijmfpaaDoor.Pt
