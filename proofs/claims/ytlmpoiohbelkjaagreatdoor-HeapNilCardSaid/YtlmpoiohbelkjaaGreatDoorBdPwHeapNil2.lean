/- Lemmas and contracts for the statement of PwHeapNil: joined by program out of this session's texts. -/
import Derived.Test.YtlmpoiohbelkjaaGreatDoorBdPwHeapNil1
import Derived.Test.YtlmpoiohbelkjaaGreatDoorProg
import Derived.Below
import Derived.Deep.Draws
import Derived.Deep.AppendLies
import Derived.Maps.AppendAt
import Derived.OwnWalk
import Derived.Laws.BytesArg
import Derived.Laws.MakeOwn
import Derived.Laws.OwnMore
import Derived.Deep.OwnRows
import Derived.Tactics
import Derived.Lib.ConvBytes
import Derived.Laws.Slices
import Derived.WalkKit
import Derived.KernelRfl
import Derived.RowKit3
import Derived.Deep.LoopGhost
import Derived.Deep.QuietTactic
import Derived.BigQuiet
import Derived.WideLaws
import Derived.Deep.DeepCutAuto
import Derived.Deep.CutBlock
import Derived.Deep.RegionHeld3
import Derived.Laws.Rows
import Derived.Lib.AppendStr
import Derived.ArgAppend
import Derived.Laws.IdiomCopy
import Derived.OrdersHeld
import Derived.Laws.BitsLemmas
import Derived.RowKit
import Derived.Handy
import Derived.Lib.Hide
import Derived.Lib.Split
import Derived.Lib.SplitLaws
import Derived.Lib.Join
import Derived.Lib.IndexLaws
import Derived.Lib.IndexBytes
import Derived.Shelf.Utf8.RuneCount
import Derived.Shelf.Strings.Search1
import Derived.Shelf.Strings.Search2
import Derived.Shelf.Strings.Search3
import Derived.Shelf.Strings.Cut
import Derived.Shelf.Strings.Count
import Derived.Shelf.LaysM
import Derived.Shelf.Strings.Shaped
import Derived.Shelf.Strings.LastIndex
import Derived.Shelf.Strings.Prefix
import Derived.Shelf.Strings.Split
import Derived.Shelf.Strings.SplitShaped
import Derived.Shelf.Unicode.Decode
import Derived.Shelf.Strings.RuneCount
import Derived.Shelf.Strings.Explode
import Derived.Shelf.Unicode.DecodeSlow
import Derived.Shelf.Unicode.DecodeAny
import Derived.Shelf.Slices.Turned
import Derived.Shelf.Slices.Reverse
import Derived.Ground.Names2Prog
import Derived.Shelf.Slices.Clone
import Derived.Shelf.Slices.Cells
import Derived.Ground.SlgnProg
import Derived.Shelf.SlicesE.Reverse
import Derived.Shelf.SlicesE.Clone
import Derived.Ground.PaProg
import Derived.Shelf.Path.Small
import Derived.WalkLawsBesides
import Derived.RangeFuncBox
import Derived.Outline
import Derived.Laws.Tables
import Derived.WalkSpells
import Derived.Deep.RegionWith
import Derived.Maps.OwnSet
import Derived.Deep.DrawnRows
import Derived.Maps.Own
import Derived.Deep.Onto
namespace Go.Proofs.YtlmpoiohbelkjaaGreatDoor.Pt
open Go.RowKit Go.Proofs.YtlmpoiohbelkjaaGreatDoorW.PrintWords Go.Proofs.YtlmpoiohbelkjaaGreatDoorW.PrintLast Go.Proofs.YtlmpoiohbelkjaaGreatDoorW.PrintMore
theorem bX {n : Nat} {w W0 W : World} (h : Aside0 (Below n w W0)) (k : Below n w W0 → Below n w W := by intro h_; repeat (first | (with_reducible first | exact h_ | apply below_alloc | apply pw_below_drewN | apply below_drew1) | exact h_)) : Below n w W := k h.out
theorem bX1 {n : Nat} {w W0 W : World} {g0 : Nat} (h : Aside0 (Below n w W0)) (q0 : Aside0 (n ≤ g0)) (k : Below n w W0 → n ≤ g0 → Below n w W := by intro h_ q0_; repeat (first | (with_reducible first | exact h_ | apply below_alloc | apply pw_below_drewN | apply below_drew1 | refine below_set ?_ q0_) | exact h_)) : Below n w W := k h.out q0.out
theorem kX {g : Nat} {o : Obj} {w W : World} (h : Aside0 (w.heap[g]? = some o)) (k : w.heap[g]? = some o → W.heap[g]? = some o := by intro h_; (with_reducible repeat (first | refine blk_drewN ?_ _ | refine blk_drew ?_ | refine blk_alloc ?_ _)); exact h_) : W.heap[g]? = some o := k h.out
theorem c2X {w : World} {g t : Nat} {x0 x1 : Value} (h : Aside0 (w.heap[g]? = some (.cells #[x0, x1] t (0, 0)))) : w.cell? ⟨g, 0, none⟩ = some x0 ∧ w.cell? ⟨g, 1, none⟩ = some x1 ∧ w.frozen? ⟨g, 0, none⟩ = false ∧ w.frozen? ⟨g, 1, none⟩ = false := ⟨(blk_cell h.out 0).trans rfl, (blk_cell h.out 1).trans rfl, blk_frozen h.out 0, blk_frozen h.out 1⟩
theorem gX {P : Program} {ops : Array Oper} {Q : Exit → Act → World → Prop} {rest : List Oper} {oi : Oper} {a : Act} {w : World} (N : Option Tmp) {f : FuncId} {fn : Func} {os : Array Operand} {ts : Array TypeId} (hf : P.funcs[f]? = some fn) (args : Array Value) (h : Calls P f args w fun e w' => ∃ v, e = .returned v ∧ wpList P ops Q rest (a.put N v) w') (hd : oi.dst = N := by exact rfl) (hg : oi.guard = none := by exact rfl) (hname : (fn.name == "runtime.NumGoroutine") = false := by kernel_rfl) (hb : fn.body.isSome = true := by exact rfl) (hop : oi.op = .call { callee := .value (.func f), args := os, argTypes := ts } := by exact rfl) (hargs : os.map a.eval = args := by ((try simp only [List.map_toArray, List.map_cons, List.map_nil]); first | done | rfl | (simp only [List.length_drop, List.length_take]; rfl))) : wpList P ops Q (oi :: rest) a w := goesL_ N hd hg hf hname hb args hop hargs h
theorem eX {P : Program} {ops : Array Oper} {o : Oper} {rest : List Oper} {Q : Exit → Act → World → Prop} {a : Act} {W : World} (N : Tmp) (cs : Array Value) (t : TypeId) (h : ∀ g, g = W.heap.size → ∀ w1, w1.heap[g]? = some (.cells cs t (0, 0)) → Below W.heap.size W w1 → wpList P ops Q rest (a.put o.dst (.pointer (some ⟨g, 0, none⟩))) w1) (hgd : o.guard = none := by exact rfl) (hd : o.dst = some N := by exact rfl) (hrun : (execOp a.eval o).run P W = .ok (.value (.pointer (some ⟨W.heap.size, 0, none⟩))) (W.alloc (.cells cs t (0, 0))) := by first | (go_simp; done) | (go_simp; rfl)) : wpList P ops Q (o :: rest) a W := box_event hgd hd hrun h
attribute [local go_sem] max2_int min2_int max_two min_two max_three min_three max_four min_four   -- for this text's walks alone
set_option linter.unusedVariables false
set_option linter.unusedSimpArgs false
def errW : Option Int → Value
 | none => .nilIface
 | some c => .iface 0 (.int .i64 c)
theorem errW_none : errW none = .nilIface := rfl
theorem errW_some (c : Int) : errW (some c) = .iface 0 (.int .i64 c) := rfl
structure S31 where
 f0 : Int
 f1 : ByteArray
def z31 : S31 := ⟨(0 : Int), (⟨#[]⟩ : ByteArray)⟩
def k31 : Kd S31 := Kd.iso (Kd.pair (Kd.int .i64) Kd.string) (fun x : S31 => (x.f0, x.f1))
theorem k31_mkM (w : World) (base : Nat) (ok : Nat → Prop) (x : S31)  : k31.M w base ok x [.int .i64 x.f0, .string x.f1] := ⟨[.int .i64 x.f0], [.string x.f1], rfl, rfl, rfl⟩
structure S114 where
 f0 : Bool
 f1 : ByteArray
 f2 : ByteArray
 f3 : ByteArray
def k114 : Kd S114 := Kd.iso (Kd.pair Kd.bool (Kd.pair Kd.string (Kd.pair Kd.string Kd.string))) (fun x : S114 => (x.f0, x.f1, x.f2, x.f3))
theorem k114_mkM (w : World) (base : Nat) (ok : Nat → Prop) (x : S114)  : k114.M w base ok x [.bool x.f0, .string x.f1, .string x.f2, .string x.f3] := ⟨[.bool x.f0], [.string x.f1, .string x.f2, .string x.f3], rfl, rfl, ⟨[.string x.f1], [.string x.f2, .string x.f3], rfl, rfl, ⟨[.string x.f2], [.string x.f3], rfl, rfl, rfl⟩⟩⟩
structure S116 where
 f0 : Int
 f1 : Int
 f2 : ByteArray
 f3 : S114
def k116 : Kd S116 := Kd.iso (Kd.pair (Kd.int .i64) (Kd.pair (Kd.int .i64) (Kd.pair Kd.string k114))) (fun x : S116 => (x.f0, x.f1, x.f2, x.f3))
theorem k116_mkM (w : World) (base : Nat) (ok : Nat → Prop) (x : S116)  : k116.M w base ok x [.int .i64 x.f0, .int .i64 x.f1, .string x.f2, .bool x.f3.f0, .string x.f3.f1, .string x.f3.f2, .string x.f3.f3] := ⟨[.int .i64 x.f0], [.int .i64 x.f1, .string x.f2, .bool x.f3.f0, .string x.f3.f1, .string x.f3.f2, .string x.f3.f3], rfl, rfl, ⟨[.int .i64 x.f1], [.string x.f2, .bool x.f3.f0, .string x.f3.f1, .string x.f3.f2, .string x.f3.f3], rfl, rfl, ⟨[.string x.f2], [.bool x.f3.f0, .string x.f3.f1, .string x.f3.f2, .string x.f3.f3], rfl, rfl, (k114_mkM w base ok x.f3 )⟩⟩⟩
structure S111 where
 f0 : ByteArray
 f1 : ByteArray
 f2 : Int
 f3 : Int
 f4 : Int
 f5 : (List S116)
def z111 : S111 := ⟨(⟨#[]⟩ : ByteArray), (⟨#[]⟩ : ByteArray), (0 : Int), (0 : Int), (0 : Int), ([] : List S116)⟩
def k111 : Kd S111 := Kd.iso (Kd.pair Kd.string (Kd.pair Kd.string (Kd.pair (Kd.int .i64) (Kd.pair (Kd.int .i64) (Kd.pair (Kd.int .i64) (Kd.slice 116 k116)))))) (fun x : S111 => (x.f0, x.f1, x.f2, x.f3, x.f4, x.f5))
theorem k111_mkM (w : World) (base : Nat) (ok : Nat → Prop) (x : S111) {v5 : Value} (g5 : k116.R 116 w base ok v5 x.f5) : k111.M w base ok x [.string x.f0, .string x.f1, .int .i64 x.f2, .int .i64 x.f3, .int .i64 x.f4, v5] := ⟨[.string x.f0], [.string x.f1, .int .i64 x.f2, .int .i64 x.f3, .int .i64 x.f4, v5], rfl, rfl, ⟨[.string x.f1], [.int .i64 x.f2, .int .i64 x.f3, .int .i64 x.f4, v5], rfl, rfl, ⟨[.int .i64 x.f2], [.int .i64 x.f3, .int .i64 x.f4, v5], rfl, rfl, ⟨[.int .i64 x.f3], [.int .i64 x.f4, v5], rfl, rfl, ⟨[.int .i64 x.f4], [v5], rfl, rfl, ⟨v5, rfl, g5⟩⟩⟩⟩⟩⟩
def rd_T111 (xs : List S111) (i : Int) : S111 := xs.getD i.toNat z111
structure S53 where
 f0 : ByteArray
 f1 : ByteArray
 f2 : (List ByteArray)
 f3 : Int
 f4 : Int
 f5 : (List S111)
def z53 : S53 := ⟨(⟨#[]⟩ : ByteArray), (⟨#[]⟩ : ByteArray), ([] : List ByteArray), (0 : Int), (0 : Int), ([] : List S111)⟩
def k53 : Kd S53 := Kd.iso (Kd.pair Kd.string (Kd.pair Kd.string (Kd.pair (Kd.slice 9 Kd.string) (Kd.pair (Kd.int .i64) (Kd.pair (Kd.int .i64) (Kd.slice 111 k111)))))) (fun x : S53 => (x.f0, x.f1, x.f2, x.f3, x.f4, x.f5))
theorem k53_open {w : World} {x : S53} {cs : List Value} (h : k53.K w x cs) : ∃ A2 c2 A5 c5, cs = [.string x.f0, .string x.f1, .slice A2 x.f2.length c2, .int .i64 x.f3, .int .i64 x.f4, .slice A5 x.f5.length c5] ∧ x.f2.length ≤ c2 ∧ Kd.string.C w A2 x.f2.length x.f2 ∧ x.f5.length ≤ c5 ∧ k111.C w A5 x.f5.length x.f5 := by
 obtain ⟨_, _, rfl, rfl, ⟨_, _, rfl, rfl, ⟨_, _, rfl, ⟨A2, c2, rfl, l2, g2⟩, ⟨_, _, rfl, rfl, ⟨_, _, rfl, rfl, ⟨A5, c5, rfl, l5, g5⟩⟩⟩⟩⟩⟩ := h
 exact ⟨A2, c2, A5, c5, rfl, l2, g2, l5, g5⟩
theorem k53_mkM (w : World) (base : Nat) (ok : Nat → Prop) (x : S53) {v2 : Value} (g2 : Kd.string.R 9 w base ok v2 x.f2) {v5 : Value} (g5 : k111.R 111 w base ok v5 x.f5) : k53.M w base ok x [.string x.f0, .string x.f1, v2, .int .i64 x.f3, .int .i64 x.f4, v5] := ⟨[.string x.f0], [.string x.f1, v2, .int .i64 x.f3, .int .i64 x.f4, v5], rfl, rfl, ⟨[.string x.f1], [v2, .int .i64 x.f3, .int .i64 x.f4, v5], rfl, rfl, ⟨[v2], [.int .i64 x.f3, .int .i64 x.f4, v5], rfl, ⟨v2, rfl, g2⟩, ⟨[.int .i64 x.f3], [.int .i64 x.f4, v5], rfl, rfl, ⟨[.int .i64 x.f4], [v5], rfl, rfl, ⟨v5, rfl, g5⟩⟩⟩⟩⟩⟩
end Go.Proofs.YtlmpoiohbelkjaaGreatDoor.Pt

namespace Go.Proofs.YtlmpoiohbelkjaaGreatDoor
open Go Go.RowKit
set_option linter.unusedVariables false
set_option linter.unusedSimpArgs false
theorem ret_bool {a b : Bool} (h : a = b) : Ending.returned (.bool a) = .returned (.bool b) := by rw [h]
theorem own_base {w : World} {base : Nat} {e : TypeId} {size n : Nat} {v : Value} {xs : List Value} (h : w.ownsRow base e size v n xs) (k : Nat) (hk : v.ownBlock = some k) : base ≤ k := (h.lt k hk).1
theorem bl_cell {w w1 : World} (h : Below w.heap.size w w1) {a : Addr} {v : Value} (hc : w.cell? a = some v) : w1.cell? a = some v := (h.cell (World.block_lt_of_cell? w a hc)).trans hc
theorem cell_new (w : World) (cs : Array Value) (t : TypeId) (j : Nat) : (w.alloc (.cells cs t)).cell? ⟨w.heap.size, j, none⟩ = cs[j]? := by
 simp only [World.cell?, heap_alloc_new]
 rfl
end Go.Proofs.YtlmpoiohbelkjaaGreatDoor

namespace Go.Proofs.YtlmpoiohbelkjaaGreatDoor.Nm
open Go Go.RowKit
set_option linter.unusedVariables false
set_option linter.unusedSimpArgs false
def bt (s : ByteArray) (k : Nat) : Int := ((s.data.toList.getD k 0).toNat : Int)
theorem bt_at (s : ByteArray) (k : Nat) (h : k < s.size) : ((s[k]'h).toNat : Int) = bt s k := by
 have h' : k < s.data.toList.length := by rw [Array.length_toList]; exact h
 simp only [bt, List.getD_eq_getElem?_getD, List.getElem?_eq_getElem h', Option.getD_some]
 rfl
theorem bt_range (s : ByteArray) (k : Nat) : 0 ≤ bt s k ∧ bt s k ≤ 255 := by
 unfold bt; have := (s.data.toList.getD k 0).toNat_lt
 omega
def letB (n : Int) (first : Bool) : Bool :=
 decide (97 ≤ n ∧ n ≤ 122) || decide (65 ≤ n ∧ n ≤ 90) || n == 95 || n == 36 || (!first && decide (48 ≤ n ∧ n ≤ 57))
def lets (s : ByteArray) (k : Nat) : Bool := (List.range k).all fun j => letB (bt s j) ((j : Int) == 0)
theorem lets_succ (s : ByteArray) (k : Nat) : lets s (k + 1) = (lets s k && letB (bt s k) ((k : Int) == 0)) := by simp [lets, List.range_succ]
theorem lets_false (s : ByteArray) (k m : Nat) (hk : k < m) (h : letB (bt s k) ((k : Int) == 0) = false) : lets s m = false := by
 unfold lets; rw [List.all_eq_false]
 exact ⟨k, by simp [hk], by simp [h]⟩
def partB (s : ByteArray) : Bool := lets s s.size && !s.toList.isEmpty
def partsB (s : ByteArray) : List ByteArray := Lib.splitB ⟨#[47]⟩ 0 (Lib.countB s ⟨#[47]⟩) s
theorem partsB_len (s : ByteArray) : (partsB s).length = Lib.countB s ⟨#[47]⟩ + 1 := Lib.splitB_all ⟨#[47]⟩ (by decide) 0 _ s rfl
theorem partsB_le (s : ByteArray) : (partsB s).length ≤ s.size + 1 := by
 rw [partsB_len]; have := Lib.countB_le ⟨#[47]⟩ (by decide) s.size s (Nat.le_refl _)
 omega
def validB (s : ByteArray) : Bool := decide (s.size ≤ 60) && (partsB s).all partB
def memberB (s : ByteArray) : Bool := (s.toList == [60, 105, 110, 105, 116, 62]) || (decide (s.size ≤ 60) && partB s)
theorem badFrom_all (l : List ByteArray) (k : Nat) (h : ∀ j, j < k → ∀ x, l[j]? = some x → partB x = true) (hk : l.length ≤ k) : l.all partB = true := by
 rw [List.all_eq_true]; intro x hx; obtain ⟨j, hj, e⟩ := List.mem_iff_getElem.1 hx
 exact h j (by omega) x (by rw [List.getElem?_eq_getElem hj, e])
theorem bad_at (l : List ByteArray) (k : Nat) (x : ByteArray) (hx : l[k]? = some x) (h : partB x = false) : l.all partB = false := by
 rw [List.all_eq_false]
 exact ⟨x, List.mem_of_getElem? hx, by simp [h]⟩
end Go.Proofs.YtlmpoiohbelkjaaGreatDoor.Nm

namespace Go.Proofs.YtlmpoiohbelkjaaGreatDoor.Nm
open Go Go.RowKit
set_option linter.unusedVariables false
set_option linter.unusedSimpArgs false
def cutAt (c : UInt8) : List UInt8 → List (List UInt8)
 | [] => [[]]
 | b :: r => if b = c then [] :: cutAt c r else match cutAt c r with
  | [] => [[b]]
  | p :: ps => (b :: p) :: ps
theorem cutAt_ne (c : UInt8) (l : List UInt8) : cutAt c l ≠ [] := by
 cases l with
 | nil => simp [cutAt]
 | cons b r =>
  unfold cutAt
  split
  ·simp
  ·split <;> simp
theorem splitK_miss (c : UInt8) (k : Nat) (s : List UInt8) (h : Lib.index s [c] = -1) : Lib.splitK [c] 0 k s = [s] := by
 cases k with
 | zero => rfl
 | succ k => rw [Lib.splitK, if_pos (by simp [h])]
theorem splitK_hit (c : UInt8) (k : Nat) (s : List UInt8) (i : Nat) (h : Lib.index s [c] = i) : Lib.splitK [c] 0 (k + 1) s = s.take i :: Lib.splitK [c] 0 k (s.drop (i + 1)) := by
 rw [Lib.splitK, if_neg (by simp [h]), h]; simp
theorem index_cons (c b : UInt8) (l : List UInt8) : Lib.index (b :: l) [c] = if b = c then 0 else if Lib.index l [c] = -1 then -1 else Lib.index l [c] + 1 := by
 rw [Lib.index]
 by_cases h : b = c
 ·subst h; simp [List.isPrefixOf]
 ·have : ¬ c = b := fun e => h e.symm
  simp [List.isPrefixOf, h, this]
theorem splitK_cut (c : UInt8) : ∀ s : List UInt8, Lib.splitK [c] 0 (Lib.count s [c]) s = cutAt c s := by
 intro s
 induction s with
 | nil =>
  rw [splitK_miss c _ [] (by simp [Lib.index])]
  rfl
 | cons b l ih =>
  unfold cutAt
  by_cases hb : b = c
  ·subst hb
   rw [if_pos rfl, Lib.count_cons_eq, Nat.add_comm, splitK_hit b _ _ 0 (by rw [index_cons, if_pos rfl]; rfl)]; simp [ih]
  ·rw [if_neg hb, Lib.count_cons_ne b c l hb, ← ih]
   by_cases hm : Lib.index l [c] = -1
   ·rw [splitK_miss c _ l hm, splitK_miss c _ (b :: l) (by rw [index_cons, if_neg hb, if_pos hm])]
   ·have hge := Lib.index_ge l [c]
    obtain ⟨i, hi⟩ : ∃ i : Nat, Lib.index l [c] = i := ⟨(Lib.index l [c]).toNat, by omega⟩
    have hpos : Lib.count l [c] ≠ 0 := by
     rw [Lib.count_one]
     have h1 : Lib.indexByte l c = (i : Int) := by rw [← Lib.index_one]; exact hi
     have h2 := (Lib.indexByte_some h1).1; have h3 : c ∈ l := List.mem_of_getElem? h2; have := List.count_pos_iff.2 h3
     omega
    obtain ⟨k, hk⟩ : ∃ k, Lib.count l [c] = k + 1 := ⟨Lib.count l [c] - 1, by omega⟩
    rw [hk, splitK_hit c k l i hi, splitK_hit c k (b :: l) (i + 1) (by rw [index_cons, if_neg hb, if_neg hm, hi]; simp)]; simp
theorem partsB_data (s : ByteArray) : (partsB s).map (·.data.toList) = cutAt 47 s.data.toList := by
 unfold partsB; rw [Lib.splitB_data, ← splitK_cut]
theorem bytes_inj {a b : ByteArray} (h : a.data.toList = b.data.toList) : a = b := by
 apply ByteArray.ext
 exact Array.toList_inj.1 h
theorem cutAt_len (c : UInt8) (l p : List UInt8) (h : p ∈ cutAt c l) : p.length ≤ l.length := by
 induction l generalizing p with
 | nil => simp [cutAt] at h; simp [h]
 | cons b r ih =>
  unfold cutAt at h
  split at h
  ·rcases List.mem_cons.1 h with rfl | h
   ·simp
   ·have := ih p h; simp only [List.length_cons]; omega
  ·split at h
   ·rename_i e; exact absurd e (cutAt_ne c r)
   ·rename_i q qs e
    rcases List.mem_cons.1 h with rfl | h
    ·have := ih q (by rw [e]; simp); simp only [List.length_cons]; omega
    ·have := ih p (by rw [e]; simp [h]); simp only [List.length_cons]; omega
theorem partsB_size (s x : ByteArray) (hx : x ∈ partsB s) : x.size ≤ s.size := by
 have h : x.data.toList ∈ cutAt 47 s.data.toList := by rw [← partsB_data]; exact List.mem_map_of_mem hx
 have := cutAt_len _ _ _ h; rw [Array.length_toList, Array.length_toList] at this
 exact this
end Go.Proofs.YtlmpoiohbelkjaaGreatDoor.Nm

namespace Go.Proofs
open Go.Shelf
def Tryz.lays143_ren : Go.Shelf.Ren := ⟨fun | 143 => 103 | 219 => 111 | 217 => 114 | 225 => 115 | 224 => 116 | 267 => 117 | 266 => 119 | 314 => 120 | n => n, fun | 9 => 9 | 3 => 3 | 4 => 4 | 5 => 5 | 46 => 191 | 146 => 196 | 51 => 77 | n => n, fun | 1 => 0 | n => n⟩
theorem Tryz.lays143 : Go.Proofs.Lays.n143 Tryz.prog Tryz.lays143_ren := {
 mixed := by kernel_rfl
 f143 := Tryz.func103.trans (congrArg some (by kernel_rfl))
 f217 := Tryz.func114.trans (congrArg some (by kernel_rfl))
 f219 := Tryz.func111.trans (congrArg some (by kernel_rfl))
 f224 := Tryz.func116.trans (congrArg some (by kernel_rfl))
 f225 := Tryz.func115.trans (congrArg some (by kernel_rfl))
 f266 := Tryz.func119.trans (congrArg some (by kernel_rfl))
 f267 := Tryz.func117.trans (congrArg some (by kernel_rfl))
 f314 := Tryz.func120.trans (congrArg some (by kernel_rfl))
 t3 := Tryz.underlying3
 a3 := Tryz.isAgg3
 z3 := Tryz.sizeOf3
 v3 := Tryz.zeroValue3
 t4 := Tryz.underlying4
 a4 := Tryz.isAgg4
 z4 := Tryz.sizeOf4
 v4 := Tryz.zeroValue4
 t5 := Tryz.underlying5
 a5 := Tryz.isAgg5
 z5 := Tryz.sizeOf5
 v5 := Tryz.zeroValue5
 t9 := Tryz.underlying9
 a9 := Tryz.isAgg9
 z9 := Tryz.sizeOf9
 v9 := Tryz.zeroValue9
 t46 := Tryz.underlying191
 a46 := Tryz.isAgg191
 z46 := Tryz.sizeOf191
 v46 := Tryz.zeroValue191
 t51 := Tryz.underlying77
 a51 := Tryz.isAgg77
 z51 := Tryz.sizeOf77
 v51 := Tryz.zeroValue77
 t146 := Tryz.underlying196
 a146 := Tryz.isAgg196
 z146 := Tryz.sizeOf196
 v146 := Tryz.zeroValue196
 g1 := by kernel_rfl }
open Go.RowKit Go.Lib in
theorem Tryz.strings_Index_one (s : ByteArray) (c : UInt8) (w : World) :
 Calls Tryz.prog 103 #[.string s, .string ⟨#[c]⟩] w fun e w' => e = .returned (.int .i64 (Lib.indexByte s.data.toList c)) ∧ w' = w := Any.strings_Index_one Tryz.lays143 s c w
def Tryz.lays138_ren : Go.Shelf.Ren := ⟨fun | 138 => 102 | 195 => 108 | 218 => 110 | 143 => 103 | 219 => 111 | 217 => 114 | 225 => 115 | 224 => 116 | 267 => 117 | 266 => 119 | 314 => 120 | n => n, fun | 9 => 9 | 3 => 3 | 4 => 4 | 5 => 5 | 0 => 0 | 46 => 191 | 146 => 196 | 51 => 77 | n => n, fun | 1 => 0 | n => n⟩
theorem Tryz.lays138 : Go.Proofs.Lays.n138 Tryz.prog Tryz.lays138_ren := {
 mixed := by kernel_rfl
 f138 := Tryz.func102.trans (congrArg some (by kernel_rfl))
 f143 := Tryz.func103.trans (congrArg some (by kernel_rfl))
 f195 := Tryz.func108.trans (congrArg some (by kernel_rfl))
 f217 := Tryz.func114.trans (congrArg some (by kernel_rfl))
 f218 := Tryz.func110.trans (congrArg some (by kernel_rfl))
 f219 := Tryz.func111.trans (congrArg some (by kernel_rfl))
 f224 := Tryz.func116.trans (congrArg some (by kernel_rfl))
 f225 := Tryz.func115.trans (congrArg some (by kernel_rfl))
 f266 := Tryz.func119.trans (congrArg some (by kernel_rfl))
 f267 := Tryz.func117.trans (congrArg some (by kernel_rfl))
 f314 := Tryz.func120.trans (congrArg some (by kernel_rfl))
 t0 := Tryz.underlying0
 a0 := Tryz.isAgg0
 z0 := Tryz.sizeOf0
 v0 := Tryz.zeroValue0
 t3 := Tryz.underlying3
 a3 := Tryz.isAgg3
 z3 := Tryz.sizeOf3
 v3 := Tryz.zeroValue3
 t4 := Tryz.underlying4
 a4 := Tryz.isAgg4
 z4 := Tryz.sizeOf4
 v4 := Tryz.zeroValue4
 t5 := Tryz.underlying5
 a5 := Tryz.isAgg5
 z5 := Tryz.sizeOf5
 v5 := Tryz.zeroValue5
 t9 := Tryz.underlying9
 a9 := Tryz.isAgg9
 z9 := Tryz.sizeOf9
 v9 := Tryz.zeroValue9
 t46 := Tryz.underlying191
 a46 := Tryz.isAgg191
 z46 := Tryz.sizeOf191
 v46 := Tryz.zeroValue191
 t51 := Tryz.underlying77
 a51 := Tryz.isAgg77
 z51 := Tryz.sizeOf77
 v51 := Tryz.zeroValue77
 t146 := Tryz.underlying196
 a146 := Tryz.isAgg196
 z146 := Tryz.sizeOf196
 v146 := Tryz.zeroValue196
 g1 := by kernel_rfl }
open Go.RowKit Go.Lib in
theorem Tryz.strings_Count_one (s : ByteArray) (c : UInt8) (w : World) :
 Calls Tryz.prog 102 #[.string s, .string ⟨#[c]⟩] w fun e w' => e = .returned (.int .i64 (Lib.countByte s.data.toList c)) ∧ w' = w := Any.strings_Count_one Tryz.lays138 s c w
def Tryz.lays146_ren : Go.Shelf.Ren := ⟨fun | 146 => 74 | 221 => 92 | 268 => 101 | 138 => 102 | 143 => 103 | 195 => 108 | 197 => 109 | 218 => 110 | 219 => 111 | 260 => 113 | 217 => 114 | 225 => 115 | 224 => 116 | 267 => 117 | 266 => 119 | 314 => 120 | n => n, fun | 9 => 9 | 31 => 50 | 3 => 3 | 4 => 4 | 0 => 0 | 105 => 188 | 21 => 21 | 5 => 5 | 46 => 191 | 119 => 192 | 139 => 195 | 138 => 194 | 146 => 196 | 51 => 77 | n => n, fun | 1 => 0 | 3 => 1 | 4 => 2 | n => n⟩
theorem Tryz.lays146 : Go.Proofs.Lays.n146 Tryz.prog Tryz.lays146_ren := {
 mixed := by kernel_rfl
 f138 := Tryz.func102.trans (congrArg some (by kernel_rfl))
 f143 := Tryz.func103.trans (congrArg some (by kernel_rfl))
 f146 := Tryz.func74.trans (congrArg some (by kernel_rfl))
 f195 := Tryz.func108.trans (congrArg some (by kernel_rfl))
 f197 := Tryz.func109.trans (congrArg some (by kernel_rfl))
 f217 := Tryz.func114.trans (congrArg some (by kernel_rfl))
 f218 := Tryz.func110.trans (congrArg some (by kernel_rfl))
 f219 := Tryz.func111.trans (congrArg some (by kernel_rfl))
 f221 := Tryz.func92.trans (congrArg some (by kernel_rfl))
 f224 := Tryz.func116.trans (congrArg some (by kernel_rfl))
 f225 := Tryz.func115.trans (congrArg some (by kernel_rfl))
 f260 := Tryz.func113.trans (congrArg some (by kernel_rfl))
 f266 := Tryz.func119.trans (congrArg some (by kernel_rfl))
 f267 := Tryz.func117.trans (congrArg some (by kernel_rfl))
 f268 := Tryz.func101.trans (congrArg some (by kernel_rfl))
 f314 := Tryz.func120.trans (congrArg some (by kernel_rfl))
 t0 := Tryz.underlying0
 a0 := Tryz.isAgg0
 z0 := Tryz.sizeOf0
 v0 := Tryz.zeroValue0
 t3 := Tryz.underlying3
 a3 := Tryz.isAgg3
 z3 := Tryz.sizeOf3
 v3 := Tryz.zeroValue3
 t4 := Tryz.underlying4
 a4 := Tryz.isAgg4
 z4 := Tryz.sizeOf4
 v4 := Tryz.zeroValue4
 t5 := Tryz.underlying5
 a5 := Tryz.isAgg5
 z5 := Tryz.sizeOf5
 v5 := Tryz.zeroValue5
 t9 := Tryz.underlying9
 a9 := Tryz.isAgg9
 z9 := Tryz.sizeOf9
 v9 := Tryz.zeroValue9
 t21 := Tryz.underlying21
 a21 := Tryz.isAgg21
 z21 := Tryz.sizeOf21
 v21 := Tryz.zeroValue21
 t31 := Tryz.underlying50
 a31 := Tryz.isAgg50
 z31 := Tryz.sizeOf50
 v31 := Tryz.zeroValue50
 t46 := Tryz.underlying191
 a46 := Tryz.isAgg191
 z46 := Tryz.sizeOf191
 v46 := Tryz.zeroValue191
 t51 := Tryz.underlying77
 a51 := Tryz.isAgg77
 z51 := Tryz.sizeOf77
 v51 := Tryz.zeroValue77
 t105 := Tryz.underlying188
 a105 := Tryz.isAgg188
 z105 := Tryz.sizeOf188
 v105 := Tryz.zeroValue188
 t119 := Tryz.underlying192
 a119 := Tryz.isAgg192
 z119 := Tryz.sizeOf192
 t138 := Tryz.underlying194
 a138 := Tryz.isAgg194
 z138 := Tryz.sizeOf194
 v138 := Tryz.zeroValue194
 t139 := Tryz.underlying195
 a139 := Tryz.isAgg195
 z139 := Tryz.sizeOf195
 v139 := Tryz.zeroValue195
 t146 := Tryz.underlying196
 a146 := Tryz.isAgg196
 z146 := Tryz.sizeOf196
 v146 := Tryz.zeroValue196
 g1 := by kernel_rfl
 g3 := by kernel_rfl
 g4 := by kernel_rfl }
def Tryz.lays107_ren : Go.Shelf.Ren := ⟨fun | 107 => 50 | 108 => 62 | n => n, fun | 28 => 33 | 3 => 3 | 4 => 4 | 0 => 0 | n => n, fun | n => n⟩
theorem Tryz.lays107 : Go.Proofs.Lays.n107 Tryz.prog Tryz.lays107_ren := {
 mixed := by kernel_rfl
 f107 := Tryz.func50.trans (congrArg some (by kernel_rfl))
 f108 := Tryz.func62.trans (congrArg some (by kernel_rfl))
 t0 := Tryz.underlying0
 a0 := Tryz.isAgg0
 z0 := Tryz.sizeOf0
 v0 := Tryz.zeroValue0
 t3 := Tryz.underlying3
 a3 := Tryz.isAgg3
 z3 := Tryz.sizeOf3
 v3 := Tryz.zeroValue3
 t4 := Tryz.underlying4
 a4 := Tryz.isAgg4
 z4 := Tryz.sizeOf4
 v4 := Tryz.zeroValue4
 t28 := Tryz.underlying33
 a28 := Tryz.isAgg33
 z28 := Tryz.sizeOf33
 v28 := Tryz.zeroValue33 }
open Go.Lib in
theorem Tryz.slices_Contains_int (b off n c : Nat) (zs : List Int) (x : Int) (w : World) (hz : n ≤ zs.length) (hbig : n ≤ 9223372036854775807) (hc : ∀ j, j < zs.length → w.cell? ⟨b, off + j, none⟩ = some (.int .i64 (zs.getD j 0))) :
 Calls Tryz.prog 50 #[.slice (some ⟨b, off, none⟩) n c, .int .i64 x] w fun e w' => e = .returned (.bool ((zs.take n).contains x)) ∧ w' = w := Any.slices_Contains_int Tryz.lays107 b off n c zs x w hz hbig hc
open Go.Lib in
theorem Tryz.slices_Contains_int_empty (a : Option Addr) (c : Nat) (x : Int) (w : World) :
 Calls Tryz.prog 50 #[.slice a 0 c, .int .i64 x] w fun e w' => e = .returned (.bool false) ∧ w' = w := Any.slices_Contains_int_empty Tryz.lays107 a c x w
end Go.Proofs

namespace Go.Proofs.YtlmpoiohbelkjaaGreatDoor.Lib1
open Go Go.Shelf Go.RowKit Go.Lib
set_option linter.unusedVariables false
set_option linter.unusedSimpArgs false
section
variable {P : Program} {ρ : Ren}
theorem index1 (L : Lays.n143 P ρ) (s : ByteArray) (c : UInt8) (w : World) :
  Calls P (ρ.f 143) #[.string s, .string ⟨#[c]⟩] w fun e w' => e = .returned (.int .i64 (Lib.indexB s ⟨#[c]⟩)) ∧ w' = w := by
 refine (Any.strings_Index_one L s c w).mono fun e w' ⟨he, hw⟩ => ⟨?_, hw⟩
 rw [he]
 show _ = Ending.returned (Value.int .i64 (Lib.index s.data.toList [c]))
 rw [Lib.index_one]
theorem genSplit1 (L : Lays.n221 P ρ) (hi9 : (P.info? (ρ.t 9)).map (fun i => (i.zero, i.size, i.bytes)) = some (some (.string ByteArray.empty), 1, 16)) (s : ByteArray) (c : UInt8) (n : Int) (N : Nat) (w : World)
  (hs : s.size < 4294967281) (hn0 : n ≠ 0) (hn63 : n ≤ 9223372036854775807) (hN : (N : Int) = min (if n < 0 then (Lib.countB s ⟨#[c]⟩ : Int) + 1 else n) ((s.size : Int) + 1)) :
  Calls P (ρ.f 221) #[.string s, .string ⟨#[c]⟩, .int .i64 ((0 : Nat) : Int), .int .i64 n] w fun e w' =>
   e = .returned (.slice (some ⟨w.heap.size, 0, none⟩) (Lib.splitB ⟨#[c]⟩ 0 (N - 1) s).length N) ∧ w' = w.alloc (.cells (Lib.cellsOf (Lib.splitB ⟨#[c]⟩ 0 (N - 1) s) N) (ρ.t 9)) :=
 Any.strings_genSplit_core L hi9 s ⟨#[c]⟩ 0 n N w hs (Nat.le_refl _) (Nat.zero_le _)
  (fun x cs hx => index1 { L with } x c _)
  ((Any.strings_Count_one { L with } s c w).mono fun e w' ⟨he, hw⟩ => ⟨by rw [he]; show _ = Ending.returned (Value.int .i64 ((Lib.count s.data.toList [c] : Nat) : Int)); rw [Lib.count_one]; rfl, hw⟩) hn0 hn63 hN
set_option maxHeartbeats 1000000 in
theorem split1 (L : Lays.n146 P ρ) (hi9 : (P.info? (ρ.t 9)).map (fun i => (i.zero, i.size, i.bytes)) = some (some (.string ByteArray.empty), 1, 16)) (s : ByteArray) (c : UInt8) (w : World) (hs : s.size < 4294967281) :
  Calls P (ρ.f 146) #[.string s, .string ⟨#[c]⟩] w fun e w' =>
   e = .returned (.slice (some ⟨w.heap.size, 0, none⟩) (Lib.countB s ⟨#[c]⟩ + 1) (Lib.countB s ⟨#[c]⟩ + 1)) ∧ w' = w.alloc (.cells ((Lib.splitB ⟨#[c]⟩ 0 (Lib.countB s ⟨#[c]⟩) s).map Value.string).toArray (ρ.t 9)) := by
 have h1 : 1 ≤ (⟨#[c]⟩ : ByteArray).size := Nat.le_refl _; have hle := Lib.countB_le ⟨#[c]⟩ h1 s.size s (Nat.le_refl _); have hlen := Lib.splitB_all ⟨#[c]⟩ h1 0 _ s rfl; have G := genSplit1 { L with } hi9 s c (-1) (Lib.countB s ⟨#[c]⟩ + 1) w hs (by decide) (by decide) (by rw [if_pos (by decide)]; omega); rw [Nat.add_sub_cancel, hlen] at G
 have e2 : Lib.cellsOf (Lib.splitB ⟨#[c]⟩ 0 (Lib.countB s ⟨#[c]⟩) s) (Lib.countB s ⟨#[c]⟩ + 1) = ((Lib.splitB ⟨#[c]⟩ 0 (Lib.countB s ⟨#[c]⟩) s).map Value.string).toArray := by rw [← hlen]; exact Lib.cellsOf_full _
 rw [e2] at G; clear e2 hle hlen; have t3 := L.t3; have t9 := L.t9; have t31 := L.t31; have a3 := L.a3; have a9 := L.a9; have a31 := L.a31; have z3 := L.z3; have v3 := L.v3; have z9 := L.z9; have v9 := L.v9; have z31 := L.z31; have v31 := L.v31; have e221 : ∀ args w, (callFunc (ρ.f 221) args).run P w = .ok (.enter (ρ.f 221) args) w := enters_of L.f221 (by kernel_rfl) rfl; go_enter L.f146, Body.n146_ntmps ρ; go_wp2_with (go_at_fn (ρ.f 221); refine G.mono ?_; rintro e w' ⟨rfl, hw⟩; rw [hw]); go_ret
 exact ⟨rfl, rfl⟩
end
end Go.Proofs.YtlmpoiohbelkjaaGreatDoor.Lib1

namespace Go.Proofs.YtlmpoiohbelkjaaGreatDoor.Nm
open Go Go.RowKit
set_option linter.unusedVariables false
set_option linter.unusedSimpArgs false
set_option maxHeartbeats 400000
theorem letter_any (n : Int) (first : Bool) (h0 : 0 ≤ n) (h1 : n ≤ 255) (w : World) : Calls Tryz.prog 75 #[.int .u8 n, .bool first] w fun e w' => e = .returned (.bool (letB n first)) ∧ w' = w := by
 go_enter Tryz.func75, Tryz.ntmps75; go_wp2
 all_goals
  go_ret; refine ⟨ret_bool ?_, rfl⟩
  simp_all [letB]
 all_goals omega
theorem part_any (s : ByteArray) (hs : s.size ≤ 4611686018427387904) (w : World) : Calls Tryz.prog 59 #[.string s] w fun e w' => e = .returned (.bool (partB s)) ∧ w' = w := by
 go_enter Tryz.func59, Tryz.ntmps59; go_wp2
 go_loop [6] (fun i => ∃ k : Nat, k ≤ s.size ∧ i = .int .i64 k ∧ lets s k = true) (fun i => s.size - (intOf i).toNat)
 case atStart => exact ⟨0, Nat.zero_le _, rfl, rfl⟩
 case round =>
  obtain ⟨k, hk, rfl, hl⟩ := hrel; replace hl := Lib.hid hl
  by_cases hlt : k < s.size
  ·have hb := bt_at s k hlt
   have hr := bt_range s k; have hsn := lets_succ s k; generalize hbk : bt s k = n at *; replace hbk := Lib.hid hbk; replace hsn := Lib.hid hsn; go_wp2_with (go_at_call 75; refine (letter_any _ _ (by omega) (by omega) _).mono ?_; rintro e w1 ⟨rfl, rfl⟩)
   ·have hL : letB n ((k : Int) == 0) = false := by simp_all
    go_ret
    exact ⟨ret_bool (by rw [partB, lets_false s k s.size hlt (by rw [hbk.out]; exact hL)]; rfl), rfl⟩
   ·have hL : letB n ((k : Int) == 0) = true := by simp_all
    go_round
    case rel => exact ⟨k + 1, by omega, by go_num, by rw [hsn.out, hl.out, hL]; rfl⟩
    case measure => simp [intOf]; omega
  ·obtain rfl : k = s.size := by omega
   go_wp2; go_ret
   exact ⟨ret_bool (by rw [partB, hl.out]; rfl), rfl⟩
def ML (_ : World) : Prop := True
theorem ML.below {w w1 : World} (_ : ML w) (_ : Below w.heap.size w w1) : ML w1 := trivial
def strC (l : List ByteArray) : Array Value := (l.map Value.string).toArray
theorem parts_any (s : ByteArray) (hs : s.size < 4294967281) (w : World) (hm : ML w) : Calls Tryz.prog 57 #[.string s] w fun e w' =>
  e = .returned (.slice (some ⟨w.heap.size, 0, none⟩) (partsB s).length (partsB s).length) ∧ w' = w.alloc (.cells (strC (partsB s)) 9) := by
 have S := Lib1.split1 Tryz.lays146 (by kernel_rfl) s 47 w hs; rw [← partsB_len] at S; replace S := Lib.hid S; clear hm; go_enter Tryz.func57, Tryz.ntmps57; go_wp2_with (go_at_call 74; refine S.out.mono ?_; rintro e w1 ⟨rfl, rfl⟩); go_ret
 exact ⟨rfl, rfl⟩
theorem valid1_any (s : ByteArray) (hs : s.size ≤ 4611686018427387904) (w : World) : Calls Tryz.prog 58 #[.string s] w fun e w' => e = .returned (.bool (!partB s)) ∧ w' = w := by
 have P := Lib.hid (part_any s hs w); go_enter Tryz.func58, Tryz.ntmps58; go_wp2_with (go_at_call 59; refine P.out.mono ?_; rintro e w1 ⟨rfl, rfl⟩); go_ret
 exact ⟨rfl, rfl⟩
def RdS (w : World) (b o : Nat) (l : List ByteArray) : Prop := ∀ j x, l[j]? = some x → w.cell? ⟨b, o + j, none⟩ = some (.string x)
theorem RdS.below {w w1 : World} {b o : Nat} {l : List ByteArray} (h : RdS w b o l) (hb : Below w.heap.size w w1) : RdS w1 b o l := fun j x hx => bl_cell hb (h j x hx)
theorem RdS.new (w : World) (l : List ByteArray) (t : TypeId) : RdS (w.alloc (.cells (strC l) t)) w.heap.size 0 l := by
 intro j x hx; rw [Nat.zero_add, cell_new]; simp [strC, hx]
theorem indexFunc_any (l : List ByteArray) (hl : l.length ≤ 4611686018427387904) (hs : ∀ x ∈ l, x.size ≤ 4611686018427387904) (b o c : Nat) (w : World) (hr : RdS w b o l) :
  Calls Tryz.prog 73 #[.slice (some ⟨b, o, none⟩) l.length c, .func (.func 58) #[] #[]] w fun e w' => (∃ n : Int, e = .returned (.int .i64 n) ∧ decide (0 ≤ n) = !l.all partB) ∧ w' = w := by
 go_enter Tryz.func73, Tryz.ntmps73; go_wp2
 go_loop [8] (fun i => ∃ k : Nat, k ≤ l.length ∧ i = .int .i64 k ∧ Hid (∀ j, j < k → ∀ x, l[j]? = some x → partB x = true)) (fun i => l.length - (intOf i).toNat)
 case atStart => exact ⟨0, Nat.zero_le _, rfl, fun j hj => absurd hj (by omega)⟩
 case round =>
  obtain ⟨k, hk, rfl, hp⟩ := hrel; replace hr := Lib.hid hr; replace hs := Lib.hid hs
  by_cases hlt : k < l.length
  ·obtain ⟨x, hx⟩ : ∃ x, l[k]? = some x := ⟨_, List.getElem?_eq_getElem hlt⟩
   have hcell := hr.out k x hx; have V := Lib.hid (valid1_any x (hs.out x (List.mem_of_getElem? hx)) w); replace hx := Lib.hid hx; go_wp2_with (go_at_call 58; refine V.out.mono ?_; rintro e w1 ⟨rfl, rfl⟩)
   ·have hf : partB x = false := by simp_all
    go_ret
    exact ⟨⟨k, rfl, by rw [bad_at l k x hx.out hf]; simp⟩, rfl⟩
   ·have hf : partB x = true := by simp_all
    go_round
    case rel => exact ⟨k + 1, by omega, by go_num, fun j hj y hy => by
     by_cases e : j = k
     ·subst e
      rw [hx.out] at hy
      cases hy
      exact hf
     ·exact hp.out j (by omega) y hy⟩
    case measure => simp [intOf]; omega
  ·go_wp2
   go_ret
   exact ⟨⟨-1, rfl, by rw [badFrom_all l k hp.out (by omega)]; rfl⟩, rfl⟩
theorem containsFunc_any (l : List ByteArray) (hl : l.length ≤ 4611686018427387904) (hs : ∀ x ∈ l, x.size ≤ 4611686018427387904) (b o c : Nat) (w : World) (hr : RdS w b o l) :
  Calls Tryz.prog 56 #[.slice (some ⟨b, o, none⟩) l.length c, .func (.func 58) #[] #[]] w fun e w' => e = .returned (.bool (!l.all partB)) ∧ w' = w := by
 have I := Lib.hid (indexFunc_any l hl hs b o c w hr); clear hs hr; go_enter Tryz.func56, Tryz.ntmps56; go_wp2_with (go_at_call 73; refine I.out.mono ?_; rintro e w1 ⟨⟨n, rfl, hn⟩, rfl⟩; replace hn := Lib.hid hn); go_ret
 exact ⟨ret_bool hn.out, rfl⟩
theorem valid_any (s : ByteArray) (w : World) (hm : ML w) : Calls Tryz.prog 45 #[.string s] w fun e w' => e = .returned (.bool (validB s)) ∧ Below w.heap.size w w' := by
 by_cases h60 : s.size ≤ 60
 ·have P := Lib.hid (parts_any s (by omega) w hm)
  have hle := partsB_le s; have C := Lib.hid (containsFunc_any (partsB s) (by omega) (fun x hx => by have := partsB_size s x hx; omega) w.heap.size 0 (partsB s).length _ (RdS.new w (partsB s) 9)); clear hm; go_enter Tryz.func45, Tryz.ntmps45
  go_wp2_with (first
   | (go_at_call 57; refine P.out.mono ?_; rintro e w1 ⟨rfl, rfl⟩)
   | (go_at_call 56; refine C.out.mono ?_; rintro e w1 ⟨rfl, rfl⟩))
  go_ret
  exact ⟨ret_bool (by simp [validB, h60]), (Below.refl _ _).alloc (Nat.le_refl _) _⟩
 ·have h60' : decide (s.size ≤ 60) = false := by simpa using h60
  clear hm; go_enter Tryz.func45, Tryz.ntmps45; go_wp2_with fail; go_ret
  exact ⟨ret_bool (by rw [validB, h60']; rfl), Below.refl _ _⟩
def slash (s : ByteArray) : Int := Lib.lastIndexByte s 47
def pkgB (s : ByteArray) : ByteArray := s.extract 0 (max 0 (slash s)).toNat
end Go.Proofs.YtlmpoiohbelkjaaGreatDoor.Nm

namespace Go.Proofs.YtlmpoiohbelkjaaGreatDoor.Ty
open Go Go.RowKit Go.Proofs.YtlmpoiohbelkjaaGreatDoor.Nm
set_option linter.unusedVariables false
set_option linter.unusedSimpArgs false
def bs (l : List UInt8) : ByteArray := ⟨l.toArray⟩
theorem mk_toList (l : List UInt8) : (bs l).data.toList = l := by simp [bs]
theorem mk_data (s : ByteArray) : bs s.data.toList = s := by cases s; simp [bs]
def opens : List UInt8 → Nat
 | [] => 0
 | x :: l => if x = 91 then opens l + 1 else 0
def past : List UInt8 → List UInt8
 | [] => []
 | x :: l => if x = 91 then past l else x :: l
def upTo : List UInt8 → List UInt8
 | [] => []
 | x :: l => if x = 59 then [] else x :: upTo l
def behind : List UInt8 → Option (List UInt8)
 | [] => none
 | x :: l => if x = 59 then some l else behind l
structure Rd where
 dims : Nat
 name : List UInt8
 rest : Option (List UInt8)
def rd (l : List UInt8) : Rd :=
 match past l with
 | [] => ⟨opens l, [], none⟩
 | x :: r =>
  if x = 73 then ⟨opens l, [], some r⟩
  else if x = 76 then
   ⟨opens l, upTo r, if validB (bs (upTo r)) then behind r else none⟩
  else ⟨opens l, [], none⟩
end Go.Proofs.YtlmpoiohbelkjaaGreatDoor.Ty

namespace Go.Proofs.YtlmpoiohbelkjaaGreatDoor.Ty
open Go Go.RowKit Go.Proofs.YtlmpoiohbelkjaaGreatDoor.Nm
set_option linter.unusedVariables false
set_option linter.unusedSimpArgs false
set_option maxHeartbeats 1000000
structure Cur (w : World) (b : Nat) (l : List UInt8) (wide : Bool) : Prop where
 c0 : w.cell? ⟨b, 0, none⟩ = some (.string (bs l))
 c1 : w.cell? ⟨b, 1, none⟩ = some (.bool wide)
 f0 : w.frozen? ⟨b, 0, none⟩ = false
 f1 : w.frozen? ⟨b, 1, none⟩ = false
def took (l : List UInt8) (c : UInt8) : Bool := l.head? == some c
theorem Cur.lt {w : World} {b : Nat} {l : List UInt8} {wd : Bool} (h : Cur w b l wd) : b < w.heap.size := World.block_lt_of_cell? w _ h.c0
theorem Cur.kept {w w' : World} {b : Nat} {l : List UInt8} {wd : Bool} (h : Cur w b l wd) {row : Option Nat} (hg : w.grownBy w' row) (hne : some b ≠ row) : Cur w' b l wd :=
 ⟨(hg.cell_far _ h.lt hne).trans h.c0, (hg.cell_far _ h.lt hne).trans h.c1, (hg.frozen_far _ h.lt hne).trans h.f0, (hg.frozen_far _ h.lt hne).trans h.f1⟩
theorem Cur.set0 {w : World} {b : Nat} {l : List UInt8} {wd : Bool} (h : Cur w b l wd) (q : List UInt8) : Cur (w.setCell ⟨b, 0, none⟩ (.string (bs q))) b q wd := by
 have := h.c0; have := h.c1; have := h.f0; have := h.f1
 constructor <;> simp_all [World.cell?_setCell_same, World.cell?_setCell_other, World.frozen?_setCell]
theorem Cur.set1 {w : World} {b : Nat} {l : List UInt8} {wd : Bool} (h : Cur w b l wd) (q : Bool) : Cur (w.setCell ⟨b, 1, none⟩ (.bool q)) b l q := by
 have := h.c0; have := h.c1; have := h.f0; have := h.f1
 constructor <;> simp_all [World.cell?_setCell_same, World.cell?_setCell_other, World.frozen?_setCell]
end Go.Proofs.YtlmpoiohbelkjaaGreatDoor.Ty

namespace Go.Proofs.YtlmpoiohbelkjaaGreatDoor.Ty
open Go Go.RowKit Go.Proofs.YtlmpoiohbelkjaaGreatDoor.Nm
set_option linter.unusedVariables false
set_option linter.unusedSimpArgs false
set_option maxHeartbeats 1000000
structure Two (w : World) (B : Nat) (k : Int) (nm : ByteArray) : Prop where
 c0 : w.cell? ⟨B, 0, none⟩ = some (.int .i64 k)
 c1 : w.cell? ⟨B, 1, none⟩ = some (.string nm)
 f0 : w.frozen? ⟨B, 0, none⟩ = false
 f1 : w.frozen? ⟨B, 1, none⟩ = false
theorem Two.lt {w : World} {b : Nat} {l : Int} {wd : ByteArray} (h : Two w b l wd) : b < w.heap.size := World.block_lt_of_cell? w _ h.c0
theorem Two.kept {w w' : World} {b : Nat} {l : Int} {wd : ByteArray} (h : Two w b l wd) {row : Option Nat} (hg : w.grownBy w' row) (hne : some b ≠ row) : Two w' b l wd :=
 ⟨(hg.cell_far _ h.lt hne).trans h.c0, (hg.cell_far _ h.lt hne).trans h.c1, (hg.frozen_far _ h.lt hne).trans h.f0, (hg.frozen_far _ h.lt hne).trans h.f1⟩
theorem Two.drew {w : World} {b : Nat} {l : Int} {wd : ByteArray} (h : Two w b l wd) : Two w.drew b l wd := ⟨h.c0, h.c1, h.f0, h.f1⟩
theorem Cur.drew {w : World} {b : Nat} {l : List UInt8} {wd : Bool} (h : Cur w b l wd) : Cur w.drew b l wd := ⟨h.c0, h.c1, h.f0, h.f1⟩
theorem Two.set0 {w : World} {b : Nat} {l : Int} {wd : ByteArray} (h : Two w b l wd) (q : Int) : Two (w.setCell ⟨b, 0, none⟩ (.int .i64 q)) b q wd := by
 have := h.c0; have := h.c1; have := h.f0; have := h.f1
 constructor <;> simp_all [World.cell?_setCell_same, World.cell?_setCell_other, World.frozen?_setCell]
theorem Two.set1 {w : World} {b : Nat} {l : Int} {wd : ByteArray} (h : Two w b l wd) (q : ByteArray) : Two (w.setCell ⟨b, 1, none⟩ (.string q)) b l q := by
 have := h.c0; have := h.c1; have := h.f0; have := h.f1
 constructor <;> simp_all [World.cell?_setCell_same, World.cell?_setCell_other, World.frozen?_setCell]
theorem Two.new (w : World) (k : Int) (nm : ByteArray) (t : TypeId) : Two (w.alloc (.cells #[.int .i64 k, .string nm] t)) w.heap.size k nm := by
 constructor
 ·rw [cell_new]; rfl
 ·rw [cell_new]; rfl
 ·unfold World.frozen?; rw [heap_alloc_new]; rfl
 ·unfold World.frozen?; rw [heap_alloc_new]; rfl
theorem gb_below {w w1 : World} (h : Below w.heap.size w w1) : w.grownBy w1 none := ⟨h.os, h.tape, h.output, h.size, fun k hk _ => h.block k hk⟩
theorem gb_none {w w1 : World} (h : w.grownBy w1 none) : Below w.heap.size w w1 := ⟨h.os, h.tape, h.output, h.size, fun k hk => h.block k hk (by simp)⟩
end Go.Proofs.YtlmpoiohbelkjaaGreatDoor.Ty

namespace Go.Proofs.YtlmpoiohbelkjaaGreatDoor.Ty
open Go Go.RowKit Go.Proofs.YtlmpoiohbelkjaaGreatDoor.Nm
set_option linter.unusedVariables false
set_option linter.unusedSimpArgs false
set_option maxHeartbeats 1000000
def parseT (l : List UInt8) : Int × List UInt8 × Int :=
 if 2000 < l.length then (0, [], 5) else
  match (rd l).rest with
  | none => (0, [], 4)
  | some r => if r ≠ [] then (0, [], 4) else if 255 < (rd l).dims then (0, [], 5) else ((rd l).dims, (rd l).name, 0)
def tyV (d : Int) (nm : List UInt8) : Value := .agg #[.int .i64 d, .string (bs nm)]
theorem bs_nil : bs [] = ⟨#[]⟩ := rfl
theorem Cur.new (w : World) (l : List UInt8) (wd : Bool) (t : TypeId) : Cur (w.alloc (.cells #[.string (bs l), .bool wd] t)) w.heap.size l wd := by
 constructor
 ·rw [cell_new]; rfl
 ·rw [cell_new]; rfl
 ·unfold World.frozen?; rw [heap_alloc_new]; rfl
 ·unfold World.frozen?; rw [heap_alloc_new]; rfl
theorem ml_alloc {w : World} (h : ML w) (o : Obj) : ML (w.alloc o) := h.below (gb_none (World.grownBy_alloc w o none))
end Go.Proofs.YtlmpoiohbelkjaaGreatDoor.Ty

namespace Go.Proofs.YtlmpoiohbelkjaaGreatDoor.Ty
open Go Go.RowKit Go.Proofs.YtlmpoiohbelkjaaGreatDoor.Nm
set_option linter.unusedVariables false
set_option linter.unusedSimpArgs false
set_option maxHeartbeats 1000000
set_option maxRecDepth 10000
def brk (l : List UInt8) : Bool := took l 91
def parseR (l : List UInt8) : Int × List UInt8 × Int :=
 if 2000 < l.length then (0, [], 5) else if brk l then parseT l else if validB (bs l) then (0, l, 0) else (0, [], 4)
end Go.Proofs.YtlmpoiohbelkjaaGreatDoor.Ty

namespace Go.Proofs.YtlmpoiohbelkjaaGreatDoor.Ty
open Go Go.RowKit Go.Proofs.YtlmpoiohbelkjaaGreatDoor.Nm
set_option linter.unusedVariables false
set_option linter.unusedSimpArgs false
def rdArgs : Nat → List UInt8 → Option (List (Nat × List UInt8) × List UInt8)
 | 0, _ => none
 | f + 1, l =>
  if took l 41 then some ([], l.tail) else
   match (rd l).rest with
   | none => none
   | some r => (rdArgs f r).map fun p => (((rd l).dims, (rd l).name) :: p.1, p.2)
def wideL (ts : List (Nat × List UInt8)) : Bool := ts.any fun a => decide (255 < a.1)
structure DescR where
 args : List (Nat × List UInt8)
 void : Bool
 rdims : Int
 rname : List UInt8
def DescR.zero : DescR := ⟨[], false, 0, []⟩
def descEnd (d : DescR) (wide : Bool) (r : List UInt8) : DescR × Int :=
 if r ≠ [] then (.zero, 4) else if wide || decide (20 < d.args.length) then (.zero, 5) else (d, 0)
def descRet (ts : List (Nat × List UInt8)) (q : List UInt8) : DescR × Int :=
 if took q 86 then descEnd ⟨ts, true, 0, []⟩ (wideL ts) q.tail
 else match (rd q).rest with
  | none => (.zero, 4)
  | some r => descEnd ⟨ts, false, (rd q).dims, (rd q).name⟩ (wideL ts || decide (255 < (rd q).dims)) r
def descOf : Option (List (Nat × List UInt8) × List UInt8) → DescR × Int
 | none => (.zero, 4)
 | some p => descRet p.1 p.2
def parseD (l : List UInt8) : DescR × Int :=
 if 2000 < l.length then (.zero, 5) else if took l 40 then descOf (rdArgs (l.length + 1) l.tail) else (.zero, 4)
end Go.Proofs.YtlmpoiohbelkjaaGreatDoor.Ty

namespace Go.Proofs.YtlmpoiohbelkjaaGreatDoor.Ty
open Go Go.RowKit Go.Proofs.YtlmpoiohbelkjaaGreatDoor.Nm
set_option linter.unusedVariables false
set_option linter.unusedSimpArgs false
set_option maxHeartbeats 1000000
set_option maxRecDepth 10000
structure Four (w : World) (B : Nat) (v : Value) (void : Bool) (k : Int) (nm : ByteArray) : Prop where
 c0 : w.cell? ⟨B, 0, none⟩ = some v
 c1 : w.cell? ⟨B, 1, none⟩ = some (.bool void)
 c2 : w.cell? ⟨B, 2, none⟩ = some (.int .i64 k)
 c3 : w.cell? ⟨B, 3, none⟩ = some (.string nm)
 f0 : w.frozen? ⟨B, 0, none⟩ = false
 f1 : w.frozen? ⟨B, 1, none⟩ = false
 f2 : w.frozen? ⟨B, 2, none⟩ = false
 f3 : w.frozen? ⟨B, 3, none⟩ = false
section
variable {w w' : World} {b : Nat} {v : Value} {vo : Bool} {k : Int} {nm : ByteArray}
theorem Four.lt (h : Four w b v vo k nm) : b < w.heap.size := World.block_lt_of_cell? w _ h.c0
theorem Four.drew (h : Four w b v vo k nm) : Four w.drew b v vo k nm := ⟨h.c0, h.c1, h.c2, h.c3, h.f0, h.f1, h.f2, h.f3⟩
theorem Four.kept (h : Four w b v vo k nm) {row : Option Nat} (hg : w.grownBy w' row) (hne : some b ≠ row) : Four w' b v vo k nm :=
 ⟨(hg.cell_far _ h.lt hne).trans h.c0, (hg.cell_far _ h.lt hne).trans h.c1, (hg.cell_far _ h.lt hne).trans h.c2, (hg.cell_far _ h.lt hne).trans h.c3,
  (hg.frozen_far _ h.lt hne).trans h.f0, (hg.frozen_far _ h.lt hne).trans h.f1, (hg.frozen_far _ h.lt hne).trans h.f2, (hg.frozen_far _ h.lt hne).trans h.f3⟩
theorem Four.set0 (h : Four w b v vo k nm) (q : Value) : Four (w.setCell ⟨b, 0, none⟩ q) b q vo k nm := by
 have := h.c0; have := h.c1; have := h.c2; have := h.c3; have := h.f0; have := h.f1; have := h.f2; have := h.f3
 constructor <;> simp_all [World.cell?_setCell_same, World.cell?_setCell_other, World.frozen?_setCell]
theorem Four.set1 (h : Four w b v vo k nm) (q : Bool) : Four (w.setCell ⟨b, 1, none⟩ (.bool q)) b v q k nm := by
 have := h.c0; have := h.c1; have := h.c2; have := h.c3; have := h.f0; have := h.f1; have := h.f2; have := h.f3
 constructor <;> simp_all [World.cell?_setCell_same, World.cell?_setCell_other, World.frozen?_setCell]
theorem Four.new (w : World) (v : Value) (vo : Bool) (k : Int) (nm : ByteArray) (t : TypeId) : Four (w.alloc (.cells #[v, .bool vo, .int .i64 k, .string nm] t)) w.heap.size v vo k nm := by
 constructor
 iterate 4 (rw [cell_new]; rfl)
 all_goals (unfold World.frozen?; rw [heap_alloc_new]; rfl)
end
end Go.Proofs.YtlmpoiohbelkjaaGreatDoor.Ty

namespace Go.Proofs.YtlmpoiohbelkjaaGreatDoor.Ty
open Go Go.RowKit Go.Proofs.YtlmpoiohbelkjaaGreatDoor.Nm
set_option linter.unusedVariables false
set_option linter.unusedSimpArgs false
set_option maxHeartbeats 1000000
set_option maxRecDepth 10000
def chk (d : Int) (nm : List UInt8) : Int := if d < 0 ∨ 255 < d then 1 else if nm ≠ [] ∧ validB (bs nm) = false then 1 else 0
theorem check_any (d : Int) (nm : List UInt8) (w : World) (hm : ML w) : Calls Tryz.prog 34 #[tyV d nm] w fun e w' => e = .returned (.int .i64 (chk d nm)) ∧ Below w.heap.size w w' := by
 have B0 := Lib.hid ((Below.refl w.heap.size w).alloc (Nat.le_refl _) (.cells #[.int .i64 d, .string (bs nm)] 31)); have V := Lib.hid (valid_any (bs nm) (w.alloc (.cells #[.int .i64 d, .string (bs nm)] 31)) (hm.below (gb_none (World.grownBy_alloc w _ none)))); clear hm
 have hne : nm ≠ [] → ¬ (bs nm).toList = [] ∧ (bs nm).toList.isEmpty = false := by
  intro h; rw [ByteArray.toList_eq, mk_toList]
  exact ⟨h, by cases nm with | nil => exact absurd rfl h | cons => rfl⟩
 have hc : chk d nm = if d < 0 ∨ 255 < d then 1 else if nm ≠ [] ∧ validB (bs nm) = false then 1 else 0 := rfl
 replace hc := Lib.hid hc
 by_cases hd : d < 0 ∨ 255 < d
 ·have h1 : chk d nm = 1 := by rw [hc.out, if_pos hd]
  rw [h1]; clear hne V; go_enter Tryz.func34, Tryz.ntmps34; rw [tyV]
  rcases hd with hd | hd
  all_goals
   go_wp2; go_ret
   exact ⟨rfl, B0.out⟩
 ·have hd1 : 0 ≤ d := by omega
  have hd2 : d ≤ 255 := by omega
  clear hd
  cases nm with
  | nil =>
   have h1 : chk d [] = 0 := by rw [hc.out, if_neg (by omega), if_neg (by simp)]
   rw [h1]; clear hne V hc; rw [tyV, bs_nil]; rw [bs_nil] at B0; go_enter Tryz.func34, Tryz.ntmps34; go_wp2; go_ret
   exact ⟨rfl, B0.out⟩
  | cons x r =>
   obtain ⟨n1, n2⟩ := hne (by simp)
   cases hv : validB (bs (x :: r))
   ·have h1 : chk d (x :: r) = 1 := by rw [hc.out, if_neg (by omega), if_pos ⟨by simp, hv⟩]
    rw [h1, tyV]; rw [hv] at V; clear hc hv hne; generalize bs (x :: r) = s at *; go_enter Tryz.func34, Tryz.ntmps34; go_wp2_with (go_at_call 45; refine V.out.mono ?_; rintro e w3 ⟨rfl, hb⟩; replace hb := Lib.hid hb); go_ret
    exact ⟨rfl, B0.out.trans (hb.out.mono (by simp))⟩
   ·have h1 : chk d (x :: r) = 0 := by rw [hc.out, if_neg (by omega), if_neg (by simp [hv])]
    rw [h1, tyV]; rw [hv] at V; clear hc hv hne; generalize bs (x :: r) = s at *; go_enter Tryz.func34, Tryz.ntmps34; go_wp2_with (go_at_call 45; refine V.out.mono ?_; rintro e w3 ⟨rfl, hb⟩; replace hb := Lib.hid hb); go_ret
    exact ⟨rfl, B0.out.trans (hb.out.mono (by simp))⟩
end Go.Proofs.YtlmpoiohbelkjaaGreatDoor.Ty

namespace Go.Proofs.YtlmpoiohbelkjaaGreatDoor.Pt
open Go Go.RowKit Go.Proofs.YtlmpoiohbelkjaaGreatDoor.Nm Go.Proofs.YtlmpoiohbelkjaaGreatDoor.Ty Go.Proofs.YtlmpoiohbelkjaaGreatDoorW.PrintWords Go.Proofs.YtlmpoiohbelkjaaGreatDoorW.PrintLast Go.Proofs.YtlmpoiohbelkjaaGreatDoorW.PrintMore
set_option linter.unusedVariables false
set_option linter.unusedSimpArgs false
def tup3 (p : Int × List UInt8 × Int) : Int × ByteArray × Int := (p.1, bs p.2.1, p.2.2)
theorem if_some {c : Prop} [Decidable c] {α : Type} {x y : α} (h : (if c then some x else none) = some y) : c ∧ some x = some y := by
 split at h
 ·exact ⟨by assumption, h⟩
 ·cases h
def types_Parse.f (a0 : ByteArray) : Option (Int × ByteArray × Int) := some (tup3 (parseT a0.data.toList))
def types_ParseRef.f (a0 : ByteArray) : Option (Int × ByteArray × Int) := some (tup3 (parseR a0.data.toList))
def types_Check.f (a0_0 : Int) (a0_1 : ByteArray) : Option Int := some (chk a0_0 a0_1.data.toList)
theorem types_Check.calls (a0_0 : Int) (a0_1 : ByteArray) (r : Int) (w : World) (h : types_Check.f a0_0 a0_1 = some r) :
  Calls Tryz.prog 34 #[.agg #[.int .i64 a0_0, .string a0_1]] w fun e w' => e = .returned (.int .i64 r) ∧ Below w.heap.size w w' := by
 unfold types_Check.f at h; obtain rfl := Option.some.inj h; have C := check_any a0_0 a0_1.data.toList w trivial; rw [tyV, mk_data] at C
 exact C
def arbiterref02_Same.f (a0_0 : Int) (a0_1 : ByteArray) (a1_0 : Int) (a1_1 : ByteArray) : Option Bool := some (decide (a0_0 = a1_0 ∧ a0_1.data.toList = a1_1.data.toList))
def toS (p : Nat × List UInt8) : S31 := ⟨p.1, bs p.2⟩
def tup5 (p : DescR × Int) : (List S31) × Bool × Int × ByteArray × Int := (p.1.args.map toS, p.1.void, p.1.rdims, bs p.1.rname, p.2)
def types_ParseDesc.f (a0 : ByteArray) : Option ((List S31) × Bool × Int × ByteArray × Int) := some (tup5 (parseD a0.data.toList))
def types_Args.f (a0 : ByteArray) : Option (Int × Int) := some (((parseD a0.data.toList).1.args.length : Int), (parseD a0.data.toList).2)
def names_Valid.f (a0 : ByteArray) : Option Bool := some (validB a0)
end Go.Proofs.YtlmpoiohbelkjaaGreatDoor.Pt

namespace Go.Proofs.YtlmpoiohbelkjaaGreatDoor.Pt
open Go Go.RowKit Go.Proofs.YtlmpoiohbelkjaaGreatDoorW.PrintWords Go.Proofs.YtlmpoiohbelkjaaGreatDoorW.PrintLast Go.Proofs.YtlmpoiohbelkjaaGreatDoorW.PrintMore
set_option linter.unusedVariables false
set_option linter.unusedSimpArgs false
set_option maxHeartbeats 1000000
def sameM (x : S111) (nm ds : ByteArray) : Bool := (x.f0.toList == nm.toList) && (x.f1.toList == ds.toList)
def findM : Nat → List S111 → ByteArray → ByteArray → Int
 | _, [], _, _ => -1
 | i, x :: r, nm, ds => if sameM x nm ds then i else findM (i + 1) r nm ds
end Go.Proofs.YtlmpoiohbelkjaaGreatDoor.Pt

namespace Go.Proofs.YtlmpoiohbelkjaaGreatDoor.Cd
open Go Go.RowKit Go.Proofs.YtlmpoiohbelkjaaGreatDoorW.PrintWords Go.Proofs.YtlmpoiohbelkjaaGreatDoorW.PrintMore
set_option linter.unusedVariables false
set_option linter.unusedSimpArgs false
set_option maxHeartbeats 1000000
set_option maxRecDepth 100000
def opTab : List Int := [0, 1, 2, 2, 2, 2, 0, 0, 0, 0, 0, 3, 3, 3, 3, 3, 3, 3, 3, 0, 0, 0, 4, 6, 7, 0, 0, 0, 0, 0, 5, 5, 8, 8, 8, 8, 0, 0, 0, 0, 0]
end Go.Proofs.YtlmpoiohbelkjaaGreatDoor.Cd

namespace Go.Proofs.YtlmpoiohbelkjaaGreatDoor.Cd
open Go Go.RowKit
set_option linter.unusedVariables false
set_option linter.unusedSimpArgs false
set_option maxHeartbeats 1000000
set_option maxRecDepth 100000
def opnd (op : Int) : Int := if op < 1 ∨ 40 < op then -1 else opTab.getD op.toNat 0
end Go.Proofs.YtlmpoiohbelkjaaGreatDoor.Cd

namespace Go.Proofs.YtlmpoiohbelkjaaGreatDoor.Pt
open Go Go.RowKit Go.Proofs.YtlmpoiohbelkjaaGreatDoor.Nm Go.Proofs.YtlmpoiohbelkjaaGreatDoor.Ty Go.Proofs.YtlmpoiohbelkjaaGreatDoorW.PrintWords Go.Proofs.YtlmpoiohbelkjaaGreatDoorW.PrintLast Go.Proofs.YtlmpoiohbelkjaaGreatDoorW.PrintMore
set_option linter.unusedVariables false
set_option linter.unusedSimpArgs false
def names_Member.f (a0 : ByteArray) : Option Bool := some (memberB a0)
def code_Operand.f (a0 : Int) : Option Int := some (Cd.opnd a0)
def shapes_Find.f (a0_0 : ByteArray) (a0_1 : ByteArray) (l0_2 : List ByteArray) (a0_3 : Int) (a0_4 : Int) (l0_5 : List (S111)) (a1 : ByteArray) (a2 : ByteArray) : Option Int := if l0_5.length ≤ 4611686018427387904 then some (findM 0 l0_5 a1 a2) else none
end Go.Proofs.YtlmpoiohbelkjaaGreatDoor.Pt

namespace Go.Proofs.YtlmpoiohbelkjaaGreatDoor.Hi
open Go Go.RowKit Go.Proofs.YtlmpoiohbelkjaaGreatDoorW.PrintWords Go.Proofs.YtlmpoiohbelkjaaGreatDoorW.PrintLast Go.Proofs.YtlmpoiohbelkjaaGreatDoorW.PrintMore Go.Proofs.YtlmpoiohbelkjaaGreatDoor.Pt
set_option linter.unusedVariables false
set_option linter.unusedSimpArgs false
set_option maxHeartbeats 1000000
def kSl : Kd (Option Addr × Nat × Nat) := Kd.scalar (fun p => Value.slice p.1 p.2.1 p.2.2) (fun _ => rfl)
structure RawM where
 f0 : ByteArray
 f1 : ByteArray
 f2 : Int
 f3 : Int
 f4 : Int
 sl : Option Addr × Nat × Nat
def kRawM : Kd RawM := Kd.iso (Kd.pair Kd.string (Kd.pair Kd.string (Kd.pair (Kd.int .i64) (Kd.pair (Kd.int .i64) (Kd.pair (Kd.int .i64) kSl))))) (fun x : RawM => (x.f0, x.f1, x.f2, x.f3, x.f4, x.sl))
theorem own_empty {α : Type} (d : Kd α) (e : Nat) (w : World) : d.R e (w.alloc (.cells #[] e)) w.heap.size (fun _ => True) (.slice (some ⟨w.heap.size, 0, none⟩) 0 0) [] :=
 ⟨fun _ _ => trivial, [], ⟨by simp, .inr ⟨w.heap.size, 0, #[], rfl, Nat.le_refl _, heap_alloc_new w _, Nat.le_refl _, Nat.zero_le _, by simp, by simp⟩⟩, Reps.none _ _⟩
theorem infoInt : (Tryz.prog.info? 3).map (fun i => (i.zero, i.size, i.bytes)) = some (some (.int .i64 0), ((Kd.int .i64)).sz, 8) := by kernel_rfl
theorem cloneInt (A : Option Addr) (c : Nat) (xs : List Int) (w : World) (hr : Kd.C (Kd.int .i64) w A xs.length xs) (hl : xs.length * 8 ≤ 140737488355328) :
  Calls Tryz.prog 48 #[.slice A xs.length c] w fun e w' => ∃ v, e = .returned v ∧ Kd.R (Kd.int .i64) 3 w' w.heap.size (fun _ => True) v xs ∧ Below w.heap.size w w' := by
 have q22 : ∀ (w : World) (a : Option Addr) (n c n' c' : Nat), (binOp .eql 33 (.slice a n c) (.slice none n' c')).run Tryz.prog w = .ok (.bool a.isNone) w := fun w a n c n' c' => Lib.run_eql_slice_nil w _ _ a n c n' c' Tryz.underlying33
 cases A with
 | none =>
  have h0 : xs.length = 0 := by
   rcases Nat.eq_zero_or_pos xs.length with h | h
   ·exact h
   ·obtain ⟨ad, h, _⟩ := hr.2.2 h
    cases h
  obtain rfl := List.eq_nil_of_length_eq_zero h0; clear h0 hr hl; go_enter Tryz.func48, Tryz.ntmps48; go_wp2; go_ret
  exact ⟨_, rfl, Kd.R_nil _ _ _ _ _, Below.refl _ _⟩
 | some ad =>
  have HR := Lib.hid hr; have HL := Lib.hid hl; clear hr hl; go_enter Tryz.func48, Tryz.ntmps48; have HO := Lib.hid (own_empty (Kd.int .i64) 3 w); have B0 := Lib.hid ((Below.refl w.heap.size w).alloc (Nat.le_refl _) (.cells #[] 3)); have HC := Lib.hid (Kd.C_below HR.out B0.out); go_wp2_with (at_builtin; refine Kd.R_append_rows (Kd.int .i64) (Rr := ((Kd.int .i64)).K (w.alloc (.cells #[] 3))) (w0 := w) w.heap.size rfl (.tmp 5) (.tmp 6) 33 3 (.int .i64 0) 8 rfl Tryz.underlying33 infoInt rfl (by decide) (by omega) _ [] xs _ xs.length c (fun _ => True) (fun _ => False) rfl rfl HO.out HC.out (fun _ _ h => h) (fun _ h => h.elim) (fun _ _ => trivial) B0.out (by simp) (by have := HL.out; simp only [List.length_nil]; omega) ?_; intro v1 w1 h1 h2 _ _; replace h1 := Lib.hid h1; replace h2 := Lib.hid h2); go_ret
  exact ⟨_, rfl, h1.out, h2.out⟩
end Go.Proofs.YtlmpoiohbelkjaaGreatDoor.Hi

namespace Go.Proofs.YtlmpoiohbelkjaaGreatDoor.Hi
open Go Go.RowKit Go.Proofs.YtlmpoiohbelkjaaGreatDoorW.PrintWords Go.Proofs.YtlmpoiohbelkjaaGreatDoorW.PrintLast Go.Proofs.YtlmpoiohbelkjaaGreatDoorW.PrintMore Go.Proofs.YtlmpoiohbelkjaaGreatDoor.Pt
set_option linter.unusedVariables false
set_option linter.unusedSimpArgs false
structure Beside (x : S111) (y : RawM) : Prop where
 e0 : y.f0 = x.f0
 e1 : y.f1 = x.f1
 e2 : y.f2 = x.f2
 e3 : y.f3 = x.f3
 e4 : y.f4 = x.f4
 el : y.sl.2.1 = x.f5.length
 ec : x.f5.length ≤ y.sl.2.2
end Go.Proofs.YtlmpoiohbelkjaaGreatDoor.Hi

namespace Go.Proofs.YtlmpoiohbelkjaaGreatDoor.Hi
open Go Go.RowKit Go.Proofs.YtlmpoiohbelkjaaGreatDoorW.PrintWords Go.Proofs.YtlmpoiohbelkjaaGreatDoorW.PrintLast Go.Proofs.YtlmpoiohbelkjaaGreatDoorW.PrintMore Go.Proofs.YtlmpoiohbelkjaaGreatDoor.Pt
set_option linter.unusedVariables false
set_option linter.unusedSimpArgs false
set_option maxHeartbeats 2000000
def Short (l : List S111) : Prop := l.length * 80 ≤ 140737488355328 ∧ ∀ x ∈ l, x.f5.length * 88 ≤ 140737488355328
structure Part (w0 w : World) (base : Nat) (v5 : Value) (l : List S111) (k : Nat) (ys : List RawM) : Prop where
 len : ys.length = l.length
 row : Kd.R kRawM 111 w base (fun _ => True) v5 ys
 bes : ∀ (j : Nat) (x : S111) (y : RawM), l[j]? = some x → ys[j]? = some y → Beside x y
 own : ∀ (j : Nat) (x : S111) (y : RawM), j < k → l[j]? = some x → ys[j]? = some y → Kd.R k116 116 w base (fun _ => True) (.slice y.sl.1 x.f5.length y.sl.2.2) x.f5
 old : ∀ (j : Nat) (x : S111) (y : RawM), k ≤ j → l[j]? = some x → ys[j]? = some y → Kd.C k116 w0 y.sl.1 x.f5.length x.f5
theorem Part.step {w0 w w1 : World} {base g n cap : Nat} {l : List S111} {k : Nat} {ys : List RawM} (hp : Part w0 w base (.slice (some ⟨g, 0, none⟩) n cap) l k ys) (hk : k < l.length) (hb : Below w.heap.size w w1)
  {An : Option Addr} {cn : Nat} {x : S111} {y : RawM} (hx : l[k]? = some x) (hy : ys[k]? = some y) (Rn : Kd.R k116 116 w1 base (fun _ => True) (.slice An x.f5.length cn) x.f5) {cells : Array Value} (hg : w1.heap[g]? = some (.cells cells 111 (0, 0))) :
  Part w0 (w1.setCell ⟨g, k * 6 + 5, none⟩ (.slice An x.f5.length cn)) base (.slice (some ⟨g, 0, none⟩) n cap) l (k + 1) (ys.set k ⟨y.f0, y.f1, y.f2, y.f3, y.f4, (An, x.f5.length, cn)⟩) := by
 have hky : k < ys.length := by rw [hp.len]; exact hk
 have R1 := Kd.R_below hp.row hb
 have hcn : x.f5.length ≤ cn := by
  obtain ⟨A', c', ev, hle, _⟩ := Kd.R_reads Rn; injection ev with _ _ ec; rw [ec]; exact hle
 refine ⟨by rw [List.length_set]; exact hp.len, ?_, ?_, ?_, ?_⟩
 ·obtain ⟨A', c', ev, hlc, RC⟩ := Kd.R_reads R1
  injection ev with ea en ec; subst ea; obtain ⟨ad, cc, ead, hcl, hK, hcell⟩ := Kd.C_get RC y (k : Int) (by omega) (by omega); injection ead with ead; subst ead; rw [Int.toNat_natCast] at hK hcell
  have hyk : ys.getD k y = y := by rw [List.getD_eq_getElem?_getD, hy]; rfl
  rw [hyk] at hK; obtain ⟨_, _, rfl, rfl, ⟨_, _, rfl, rfl, ⟨_, _, rfl, rfl, ⟨_, _, rfl, rfl, ⟨_, _, rfl, rfl, rfl⟩⟩⟩⟩⟩ := hK; refine (Kd.R_seg R1 (k : Int) (by omega) (by omega) (j := 5) (seg := [.slice An x.f5.length cn]) (okp := fun _ => False) (c := [.string y.f0, .string y.f1, .int .i64 y.f2, .int .i64 y.f3, .int .i64 y.f4, .slice y.sl.1 y.sl.2.1 y.sl.2.2]) rfl (fun j u hj => ?_) (show 5 + 1 ≤ 6 by omega) (x' := ⟨y.f0, y.f1, y.f2, y.f3, y.f4, (An, x.f5.length, cn)⟩) ?_ (fun _ h => h.elim)).1
  ·have := hcell j u hj
   have ea : ∀ b o j, (⟨b, o, none⟩ : Addr).add j = ⟨b, o + j, none⟩ := fun b o j => by unfold Addr.add; split <;> simp_all
   rw [ea] at this; rw [Nat.zero_add] at this
   exact this
  ·exact ⟨[_], [_, _, _, _, _], rfl, rfl, ⟨[_], [_, _, _, _], rfl, rfl, ⟨[_], [_, _, _], rfl, rfl, ⟨[_], [_, _], rfl, rfl, ⟨[_], [_], rfl, rfl, rfl⟩⟩⟩⟩⟩
 ·intro j x1 y1 hx1 hy1
  by_cases hj : j = k
  ·subst hj
   rw [List.getElem?_set_self hky] at hy1; rw [hx] at hx1
   cases hx1; cases hy1
   have B := hp.bes j _ _ hx hy
   exact ⟨B.e0, B.e1, B.e2, B.e3, B.e4, rfl, hcn⟩
  ·rw [List.getElem?_set_ne (Ne.symm hj)] at hy1
   exact hp.bes j _ _ hx1 hy1
 ·intro j x1 y1 hlt hx1 hy1
  by_cases hj : j = k
  ·subst hj
   rw [List.getElem?_set_self hky] at hy1; rw [hx] at hx1
   cases hx1; cases hy1
   exact Kd.R_set Rn hg (by decide) _ _
  ·rw [List.getElem?_set_ne (Ne.symm hj)] at hy1
   exact Kd.R_set (Kd.R_below (hp.own j _ _ (by omega) hx1 hy1) hb) hg (by decide) _ _
 ·intro j x1 y1 hle hx1 hy1
  rw [List.getElem?_set_ne (by omega)] at hy1
  exact hp.old j _ _ (by omega) hx1 hy1
end Go.Proofs.YtlmpoiohbelkjaaGreatDoor.Hi

namespace Go.Proofs.YtlmpoiohbelkjaaGreatDoor.Hi
open Go Go.RowKit Go.Proofs.YtlmpoiohbelkjaaGreatDoorW.PrintWords Go.Proofs.YtlmpoiohbelkjaaGreatDoorW.PrintLast Go.Proofs.YtlmpoiohbelkjaaGreatDoorW.PrintMore Go.Proofs.YtlmpoiohbelkjaaGreatDoor.Pt
set_option linter.unusedVariables false
set_option linter.unusedSimpArgs false
structure Ent where
 c : S53
 above : Int
 depth : Int
 clo : List Int
def kE : Kd Ent := Kd.iso (Kd.pair k53 (Kd.pair (Kd.int .i64) (Kd.pair (Kd.int .i64) (Kd.slice 3 (Kd.int .i64))))) (fun x : Ent => (x.c, x.above, x.depth, x.clo))
theorem kE_open {w : World} {x : Ent} {cs : List Value} (h : kE.K w x cs) : ∃ A2 c2 A5 c5 A8 c8, cs = [.string x.c.f0, .string x.c.f1, .slice A2 x.c.f2.length c2, .int .i64 x.c.f3, .int .i64 x.c.f4, .slice A5 x.c.f5.length c5, .int .i64 x.above, .int .i64 x.depth, .slice A8 x.clo.length c8] ∧ x.c.f2.length ≤ c2 ∧ Kd.string.C w A2 x.c.f2.length x.c.f2 ∧ x.c.f5.length ≤ c5 ∧ k111.C w A5 x.c.f5.length x.c.f5 ∧ x.clo.length ≤ c8 ∧ (Kd.int .i64).C w A8 x.clo.length x.clo := by
 obtain ⟨_, _, rfl, hc, ⟨_, _, rfl, rfl, ⟨_, _, rfl, rfl, ⟨A8, c8, rfl, l8, g8⟩⟩⟩⟩ := h; obtain ⟨A2, c2, A5, c5, rfl, l2, g2, l5, g5⟩ := k53_open hc
 exact ⟨A2, c2, A5, c5, A8, c8, rfl, l2, g2, l5, g5, l8, g8⟩
theorem kE_mkM (w : World) (base : Nat) (ok : Nat → Prop) (x : Ent) {v2 v5 v8 : Value} (g2 : Kd.string.R 9 w base ok v2 x.c.f2) (g5 : k111.R 111 w base ok v5 x.c.f5) (g8 : (Kd.int .i64).R 3 w base ok v8 x.clo) :
  kE.M w base ok x [.string x.c.f0, .string x.c.f1, v2, .int .i64 x.c.f3, .int .i64 x.c.f4, v5, .int .i64 x.above, .int .i64 x.depth, v8] :=
 ⟨[.string x.c.f0, .string x.c.f1, v2, .int .i64 x.c.f3, .int .i64 x.c.f4, v5], [.int .i64 x.above, .int .i64 x.depth, v8], rfl, k53_mkM w base ok x.c g2 g5, ⟨[.int .i64 x.above], [.int .i64 x.depth, v8], rfl, rfl, ⟨[.int .i64 x.depth], [v8], rfl, rfl, ⟨v8, rfl, g8⟩⟩⟩⟩
def ptrE (p : Nat) : Value := .pointer (some ⟨p, 0, none⟩)
def kP : Kd Nat := Kd.scalar ptrE (fun _ => rfl)
def MapSays (D : DataW Unit) (names : List ByteArray) : Prop := Maps.IsMap D ∧ ∀ s : ByteArray,
 (Maps.has D (.string s.data.toList) = true ↔ s ∈ names) ∧ ∀ i : Nat, names[i]? = some s → D.atKey (.string s.data.toList) (.lit (.int .i64 0)) = .lit (.int .i64 i)
theorem str_inj {s t : ByteArray} (h : Lit.string s.data.toList = Lit.string t.data.toList) : s = t := by
 injection h with h
 cases s; cases t
 simp at h; rw [ByteArray.mk.injEq]
 exact h
theorem MapSays.nil : MapSays (.map []) [] := ⟨⟨[], rfl⟩, fun s => ⟨by simp [Maps.has], fun i h => by simp at h⟩⟩
theorem MapSays.put {D : DataW Unit} {names : List ByteArray} (h : MapSays D names) (s : ByteArray) (hs : s ∉ names) : MapSays (D.put (.string s.data.toList) (.lit (.int .i64 (names.length : Nat)))) (names ++ [s]) := by
 obtain ⟨hm, h⟩ := h
 have hk : WideAt.IsKeyLit (.string s.data.toList) := by simp [WideAt.IsKeyLit]
 refine ⟨?_, fun t => ?_⟩
 ·obtain ⟨es, rfl⟩ := hm
  exact ⟨_, rfl⟩
 ·obtain ⟨h1, h2⟩ := h t
  by_cases ht : t = s
  ·subst ht
   refine ⟨by rw [Maps.has_put_same hm hk]; simp, fun i hi => ?_⟩; rw [Maps.atKey_put_same hm hk]
   have : ¬ i < names.length := fun hl => by
    rw [List.getElem?_append_left hl] at hi
    exact hs (List.mem_of_getElem? hi)
   rw [List.getElem?_append_right (by omega)] at hi
   have : i - names.length = 0 := by
    cases h0 : i - names.length with
    | zero => rfl
    | succ k => rw [h0] at hi; simp at hi
   obtain rfl : i = names.length := by omega
   rfl
  ·have hne : Lit.string t.data.toList ≠ Lit.string s.data.toList := fun e => ht (str_inj e)
   refine ⟨by rw [Maps.has_put_other hne, h1]; simp [ht], fun i hi => ?_⟩; rw [Maps.atKey_put_other hne]
   by_cases hl : i < names.length
   ·rw [List.getElem?_append_left hl] at hi
    exact h2 i hi
   ·rw [List.getElem?_append_right (by omega)] at hi
    cases h0 : i - names.length with
    | zero => rw [h0] at hi; simp at hi; exact absurd hi.symm ht
    | succ k => rw [h0] at hi; simp at hi
structure WIn (w : World) (base g : Nat) (v : Value) (mb : Nat) (ps : List Nat) (es : List Ent) : Prop where
 hg : base ≤ g
 blk : w.heap[g]? = some (.cells #[v, .map (some mb)] 101 (0, 0))
 row : Kd.R kP 89 w base (fun _ => True) v ps
 len : ps.length = es.length
 ent : ∀ (j : Nat) (x : Ent) (p : Nat), es[j]? = some x → ps[j]? = some p → base ≤ p ∧ ∃ cells, w.heap[p]? = some (.cells cells 93 (0, 0)) ∧ kE.M w base (fun _ => True) x cells.toList
 mbl : base ≤ mb
 map : ∃ D : DataW Unit, w.ownsMap Tryz.prog 9 (plainElem Tryz.prog 3) mb es.length D ∧ MapSays D (es.map (·.c.f0))
theorem WIn.below {w w1 : World} {base g : Nat} {v : Value} {mb : Nat} {ps : List Nat} {es : List Ent} (h : WIn w base g v mb ps es) (hb : Below w.heap.size w w1) : WIn w1 base g v mb ps es := by
 refine ⟨h.hg, blk_below h.blk hb, ?_, h.len, fun j x p hx hp => ?_, h.mbl, ?_⟩
 ·exact Kd.R_below h.row hb
 ·obtain ⟨h1, cells, h2, h3⟩ := h.ent j x p hx hp
  exact ⟨h1, cells, blk_below h2 hb, Kd.M_below h3 hb⟩
 ·obtain ⟨D, h1, h2⟩ := h.map
  obtain ⟨es1, clock, hbk, F, hs, rfl⟩ := h1
  exact ⟨_, ⟨es1, clock, blk_below hbk hb, F, hs, rfl⟩, h2⟩
end Go.Proofs.YtlmpoiohbelkjaaGreatDoor.Hi

namespace Go.Proofs.YtlmpoiohbelkjaaGreatDoor.Hi
open Go Go.RowKit Go.Proofs.YtlmpoiohbelkjaaGreatDoorW.PrintWords Go.Proofs.YtlmpoiohbelkjaaGreatDoorW.PrintLast Go.Proofs.YtlmpoiohbelkjaaGreatDoorW.PrintMore Go.Proofs.YtlmpoiohbelkjaaGreatDoor.Pt
set_option linter.unusedVariables false
set_option linter.unusedSimpArgs false
set_option maxHeartbeats 2000000
def atP (ps : List Nat) (id : Int) : Value := if 0 ≤ id ∧ id < ps.length then ptrE (ps.getD id.toNat 0) else .pointer none
end Go.Proofs.YtlmpoiohbelkjaaGreatDoor.Hi

namespace Go.Proofs.YtlmpoiohbelkjaaGreatDoor.Hi
open Go Go.RowKit Go.Proofs.YtlmpoiohbelkjaaGreatDoorW.PrintWords Go.Proofs.YtlmpoiohbelkjaaGreatDoorW.PrintLast Go.Proofs.YtlmpoiohbelkjaaGreatDoorW.PrintMore Go.Proofs.YtlmpoiohbelkjaaGreatDoor.Pt
set_option linter.unusedVariables false
set_option linter.unusedSimpArgs false
set_option maxHeartbeats 2000000
def zE : Ent := ⟨z53, 0, 0, []⟩
def classF (es : List Ent) (id : Int) : S53 × Int := if 0 ≤ id ∧ id < es.length then ((es.getD id.toNat zE).c, 0) else (z53, 3)
def Small (c : S53) : Prop := c.f2.length * 16 ≤ 140737488355328 ∧ Short c.f5
theorem WIn.at_ {w : World} {base g : Nat} {v : Value} {mb : Nat} {ps : List Nat} {es : List Ent} (h : WIn w base g v mb ps es) {id : Int} (h0 : 0 ≤ id) (h1 : id < es.length) :
  ∃ p cells, atP ps id = ptrE p ∧ w.heap[p]? = some (.cells cells 93 (0, 0)) ∧ kE.K w (es.getD id.toNat zE) cells.toList := by
 have hl := h.len
 have hx : es[id.toNat]? = some (es.getD id.toNat zE) := by
  rw [List.getD_eq_getElem?_getD, List.getElem?_eq_getElem (by omega)]; rfl
 have hp : ps[id.toNat]? = some (ps.getD id.toNat 0) := by
  rw [List.getD_eq_getElem?_getD, List.getElem?_eq_getElem (by omega)]; rfl
 obtain ⟨_, cells, h2, h3⟩ := h.ent _ _ _ hx hp
 exact ⟨ps.getD id.toNat 0, cells, if_pos ⟨h0, by omega⟩, h2, Kd.K_of_M _ h3⟩
end Go.Proofs.YtlmpoiohbelkjaaGreatDoor.Hi

namespace Go.Proofs.YtlmpoiohbelkjaaGreatDoor.Hi
open Go Go.RowKit Go.Proofs.YtlmpoiohbelkjaaGreatDoorW.PrintWords Go.Proofs.YtlmpoiohbelkjaaGreatDoorW.PrintLast Go.Proofs.YtlmpoiohbelkjaaGreatDoorW.PrintMore Go.Proofs.YtlmpoiohbelkjaaGreatDoor.Pt
set_option linter.unusedVariables false
set_option linter.unusedSimpArgs false
def ent (es : List Ent) (i : Int) : Ent := es.getD i.toNat zE
def inB (es : List Ent) (i : Int) : Bool := decide (0 ≤ i ∧ i < es.length)
def isI (c : S53) : Bool := Go.bits .and .i64 c.f3 512 != 0
def Tree (es : List Ent) : Prop := ∀ (i : Nat) (x : Ent), es[i]? = some x → (x.above = -1 ∧ x.depth = 0) ∨ (0 ≤ x.above ∧ x.above < i ∧ x.depth = (ent es x.above).depth + 1)
def climb (es : List Ent) : Nat → Int → Int → Int
 | 0, a, _ => a
 | k + 1, a, d => if (ent es a).depth > d then climb es k (ent es a).above d else a
def extF (es : List Ent) (a b : Int) : Bool :=
 if inB es a && inB es b then (if isI (ent es b).c then (a == b || (ent es a).clo.contains b) else climb es es.length a (ent es b).depth == b) else false
def nameF (es : List Ent) (s : ByteArray) : Int × Int := match (es.map (·.c.f0)).findIdx? (fun t => decide (t = s)) with | some i => ((i : Int), 0) | none => (0, 6)
theorem ent_get {es : List Ent} {i : Nat} {x : Ent} (h : es[i]? = some x) : ent es i = x := by
 simp [ent, List.getD_eq_getElem?_getD, h]
theorem get_ent {es : List Ent} {i : Int} (h0 : 0 ≤ i) (h1 : i < es.length) : es[i.toNat]? = some (ent es i) := by
 rw [ent, List.getD_eq_getElem?_getD, List.getElem?_eq_getElem (by omega)]; rfl
theorem Tree.at_ {es : List Ent} (h : Tree es) {i : Int} (h0 : 0 ≤ i) (h1 : i < es.length) : ((ent es i).above = -1 ∧ (ent es i).depth = 0) ∨ (0 ≤ (ent es i).above ∧ (ent es i).above < i ∧ (ent es i).depth = (ent es (ent es i).above).depth + 1) := by
 rcases h _ _ (get_ent h0 h1) with h | ⟨h2, h3, h4⟩
 ·exact .inl h
 ·exact .inr ⟨h2, by omega, h4⟩
theorem Tree.depth {es : List Ent} (h : Tree es) : ∀ (n : Nat) (i : Int), i.toNat < n → 0 ≤ i → i < es.length → 0 ≤ (ent es i).depth ∧ (ent es i).depth ≤ i
 | 0, i, h0, _, _ => absurd h0 (by omega)
 | n + 1, i, hn, h0, h1 => by
  rcases h.at_ h0 h1 with ⟨_, hd⟩ | ⟨h2, h3, hd⟩
  ·omega
  ·have := Tree.depth h n _ (show (ent es i).above.toNat < n by omega) h2 (by omega)
   omega
end Go.Proofs.YtlmpoiohbelkjaaGreatDoor.Hi

namespace Go.Proofs.YtlmpoiohbelkjaaGreatDoor.Pt
open Go Go.RowKit Go.Proofs.YtlmpoiohbelkjaaGreatDoor.Hi Go.Proofs.YtlmpoiohbelkjaaGreatDoorW.PrintWords Go.Proofs.YtlmpoiohbelkjaaGreatDoorW.PrintLast Go.Proofs.YtlmpoiohbelkjaaGreatDoorW.PrintMore
set_option linter.unusedVariables false
set_option linter.unusedSimpArgs false
def Fine (x : Ent) : Prop := Small x.c ∧ x.c.f0.size < 4611686018427387904 ∧ x.clo.length ≤ 1000
def TypeAt (w : World) (b t : Nat) : Prop := ∃ cells, w.heap[b]? = some (.cells cells t (0, 0))
theorem TypeAt.below {w w1 : World} {b t : Nat} (h : TypeAt w b t) (hb : Below w.heap.size w w1) : TypeAt w1 b t := by
 obtain ⟨cells, h⟩ := h
 exact ⟨cells, blk_below h hb⟩
theorem TypeAt.alloc {w : World} {b t : Nat} (h : TypeAt w b t) (o : Obj) : TypeAt (w.alloc o) b t := h.below ((Below.refl _ _).alloc (Nat.le_refl _) o)
theorem TypeAt.drewN {w : World} {b t : Nat} (h : TypeAt w b t) (n : Nat) : TypeAt (w.drewN n) b t := h.below (pw_below_drewN (Below.refl _ _) n)
theorem TypeAt.drew {w : World} {b t : Nat} (h : TypeAt w b t) : TypeAt w.drew b t := h.below (below_drew (Below.refl _ _))
theorem TypeAt.setCell {w : World} {b t : Nat} (h : TypeAt w b t) (p : Addr) (u : Value) : TypeAt (w.setCell p u) b t := by
 obtain ⟨cells, h⟩ := h
 by_cases hp : b = p.block
 ·subst hp
  refine ⟨if p.spot.isSome = true then cells else cells.setIfInBounds p.off u, ?_⟩; unfold World.setCell
  show (w.heap.modify p.block _)[p.block]? = _
  rw [Array.getElem?_modify, h]; simp
 ·exact ⟨cells, (Below.heap_setCell w p u b hp).trans h⟩
theorem WIn_setT {w : World} {base g : Nat} {v : Value} {mb : Nat} {ps : List Nat} {es : List Ent} (h : WIn w base g v mb ps es) {b t : Nat} {cells : Array Value} (hb : w.heap[b]? = some (.cells cells t (0, 0)))
  (ht : ∀ q, q ∈ 101 :: 93 :: 89 :: kE.E → q ≠ t) (j : Nat) (u : Value) : WIn (w.setCell ⟨b, j, none⟩ u) base g v mb ps es := by
 refine ⟨h.hg, blk_far (p := ⟨b, j, none⟩) h.blk (blk_ne h.blk hb (ht _ List.mem_cons_self)) u, ?_, h.len, fun i x p hx hp => ?_, h.mbl, ?_⟩
 ·exact Kd.R_set h.row hb (fun q hq => ht q (by
   rcases List.mem_cons.1 hq with rfl | hq
   ·simp
   ·cases hq)) j u
 ·obtain ⟨h1, cs, h2, h3⟩ := h.ent i x p hx hp
  exact ⟨h1, cs, blk_far (p := ⟨b, j, none⟩) h2 (blk_ne h2 hb (ht _ (by simp))) u, kE.M_mono (fun _ hk => trivial) (Kd.M_far (p := ⟨b, j, none⟩) (Kd.M_types h3 hb (fun q hq => ht q (by simp [hq]))) (fun _ hk => hk.2) u)⟩
 ·obtain ⟨D, h1, h2⟩ := h.map
  obtain ⟨es1, clock, hbk, F, hs, rfl⟩ := h1
  have hne : mb ≠ b := by
   rintro rfl; rw [hb] at hbk
   cases hbk
  exact ⟨_, ⟨es1, clock, (Below.heap_setCell w ⟨b, j, none⟩ u mb hne).trans hbk, F, hs, rfl⟩, h2⟩
structure WOK (w : World) (g : Nat) (es : List Ent) : Prop where
 inn : ∃ base v mb ps, WIn w base g v mb ps es
 fine : ∀ x ∈ es, Fine x
 tree : Tree es
 len : es.length ≤ 1000
theorem WOK.below {w w1 : World} {g : Nat} {es : List Ent} (h : WOK w g es) (hb : Below w.heap.size w w1) : WOK w1 g es := by
 obtain ⟨⟨base, v, mb, ps, hi⟩, h2, h3, h4⟩ := h
 exact ⟨⟨base, v, mb, ps, hi.below hb⟩, h2, h3, h4⟩
theorem WOK.alloc {w : World} {g : Nat} {es : List Ent} (h : WOK w g es) (o : Obj) : WOK (w.alloc o) g es := h.below ((Below.refl _ _).alloc (Nat.le_refl _) o)
theorem WOK.drewN {w : World} {g : Nat} {es : List Ent} (h : WOK w g es) (n : Nat) : WOK (w.drewN n) g es := h.below (pw_below_drewN (Below.refl _ _) n)
theorem WOK.drew {w : World} {g : Nat} {es : List Ent} (h : WOK w g es) : WOK w.drew g es := h.below (below_drew (Below.refl _ _))
theorem WOK.set {w : World} {g : Nat} {es : List Ent} {b t : Nat} (h : WOK w g es) (hb : TypeAt w b t) (ht : ∀ q, q ∈ 101 :: 93 :: 89 :: kE.E → q ≠ t) (j : Nat) (u : Value) : WOK (w.setCell ⟨b, j, none⟩ u) g es := by
 obtain ⟨⟨base, v, mb, ps, hi⟩, h2, h3, h4⟩ := h; obtain ⟨cells, hb⟩ := hb
 exact ⟨⟨base, v, mb, ps, WIn_setT hi hb ht j u⟩, h2, h3, h4⟩
end Go.Proofs.YtlmpoiohbelkjaaGreatDoor.Pt

namespace Go.Proofs.YtlmpoiohbelkjaaGreatDoor.Hi
open Go Go.RowKit Go.Proofs.YtlmpoiohbelkjaaGreatDoorW.PrintWords Go.Proofs.YtlmpoiohbelkjaaGreatDoorW.PrintLast Go.Proofs.YtlmpoiohbelkjaaGreatDoorW.PrintMore Go.Proofs.YtlmpoiohbelkjaaGreatDoor.Pt
set_option linter.unusedVariables false
set_option linter.unusedSimpArgs false
set_option maxHeartbeats 2000000
set_option maxRecDepth 100000
def addI (clo : List Int) (id : Int) : List Int := if clo.contains id then clo else clo ++ [id]
theorem contains_R {w : World} {e B : Nat} {ok : Nat → Prop} {v : Value} {clo : List Int} (h : Kd.R (Kd.int .i64) e w B ok v clo) (hl : clo.length ≤ 1000000) (id : Int) :
  Calls Tryz.prog 50 #[v, .int .i64 id] w fun e w' => e = .returned (.bool (clo.contains id)) ∧ w' = w := by
 obtain ⟨A, c, rfl, hc⟩ := own_reads (Kd.own_of_R h)
 rcases Nat.eq_zero_or_pos clo.length with h0 | h0
 ·obtain rfl := List.eq_nil_of_length_eq_zero h0
  exact Tryz.slices_Contains_int_empty A c id w
 ·obtain ⟨g, cap, eg, _⟩ := Kd.R_form h h0
  injection eg with e1 e2 e3; subst e1 e3
  have C := Tryz.slices_Contains_int g 0 clo.length c clo id w (Nat.le_refl _) (by omega) (fun j hj => by
   obtain ⟨ad, ea, hx⟩ := hc.2.2 h0; injection ea with ea; subst ea; have := hx j hj; rw [add_plain] at this
   rwa [Nat.zero_add])
  rwa [List.take_length] at C
theorem info_int : (Tryz.prog.info? 3).map (fun i => (i.zero, i.size, i.bytes)) = some (some (.int .i64 0), ((Kd.int .i64)).sz, 8) := by kernel_rfl
attribute [local go_sem ↓] Go.wp_at_zero Go.wp_at_succ
theorem add_any (w : World) (B pe be : Nat) (x0 x1 x2 x3 x4 x5 x6 x7 v8 : Value) (clo : List Int) (id : Int)
  (hbe : w.heap[be]? = some (.cells #[ptrE pe] 89 (0, 0))) (hpe : w.heap[pe]? = some (.cells #[x0, x1, x2, x3, x4, x5, x6, x7, v8] 93 (0, 0)))
  (h8 : Kd.R (Kd.int .i64) 3 w B (fun _ => True) v8 clo) (hB : B ≤ pe) (hBs : B ≤ w.heap.size) (hl : clo.length ≤ 1000000) :
  Calls Tryz.prog 49 #[.int .i64 id, .pointer (some ⟨be, 0, none⟩)] w fun e w' => e = .returned (.tuple #[]) ∧ ∃ v8', w'.heap[be]? = some (.cells #[ptrE pe] 89 (0, 0)) ∧ w'.heap[pe]? = some (.cells #[x0, x1, x2, x3, x4, x5, x6, x7, v8'] 93 (0, 0)) ∧
   Kd.R (Kd.int .i64) 3 w' B (fun _ => True) v8' (addI clo id) ∧ Below B w w' ∧ ∀ (k : Nat) (o : Obj), w.heap[k]? = some o → k ≠ pe → some k ≠ v8.ownBlock → w'.heap[k]? = some o := by
 obtain ⟨A8, c8, rfl⟩ := Kd.R_slice h8; have q0 : w.cell? ⟨be, 0, none⟩ = some (.pointer (some ⟨pe, 0, none⟩)) := (blk_cell hbe 0).trans rfl; have q8 : w.cell? ⟨pe, 8, none⟩ = some (.slice A8 clo.length c8) := (blk_cell hpe 8).trans rfl; have k8 := blk_frozen hpe 8; have C := Lib.hid (contains_R h8 hl id); have HB := Lib.hid hbe; have HP := Lib.hid hpe; have H8 := Lib.hid h8; have hlp : pe < w.heap.size := blk_lt hpe; have hlb : be < w.heap.size := blk_lt hbe; have hnp := Lib.hid (Kd.R_ne h8 hpe (by decide)); have hnb := Lib.hid (Kd.R_ne h8 hbe (by decide)); have hne : be ≠ pe := blk_ne hbe hpe (by decide); clear hbe hpe h8
 by_cases hc : clo.contains id = true
 ·have HA : Hid (addI clo id = clo) := Lib.hid (if_pos hc)
  rw [hc] at C; go_enter Tryz.func49, Tryz.ntmps49; go_wp2_with (go_at_call 50; refine C.out.mono ?_; rintro e w1 ⟨rfl, rfl⟩)
  go_end0
  exact ⟨rfl, _, HB.out, HP.out, by rw [HA.out]; exact H8.out, Below.refl _ _, fun k o h _ _ => h⟩
 ·have HA : Hid (addI clo id = clo ++ [id]) := Lib.hid (if_neg hc)
  rw [show clo.contains id = false by simpa using hc] at C; go_enter Tryz.func49, Tryz.ntmps49; go_wp2_with (go_at_call 50; refine C.out.mono ?_; rintro e w1 ⟨rfl, rfl⟩)
  go_region_law (first | (refine Kd.R_append_step (Kd.int .i64) (W := w1.drew) (w0 := w1) B (by rfl) (.tmp 14) (.tmp 16) 33 3 (.int .i64 0) 8 (by rfl) Tryz.underlying33 info_int rfl (by decide) (by omega) _ clo id [.int .i64 id] (fun _ => True) (fun _ => False) (by rfl) (by rfl) rfl (fun _ h => h.elim) (fun _ _ => trivial) (Kd.R_below H8.out (below_drew1 (Below.refl _ _))) (below_drew1 (Below.refl _ _)) hBs (by omega) ?_; intro v1 w2 h1 h2 h3 h4; obtain ⟨A9, c9, rfl⟩ := Kd.R_slice h1; rw [show (clo ++ [id]).length = clo.length + 1 by simp] at h1; replace h1 := Lib.hid h1; replace h2 := Lib.hid h2; replace h3 := Lib.hid h3; have kx := (h3.out.frozen_far ⟨pe, 8, none⟩ (blk_lt HP.out) hnp.out).trans k8; have qb := (h3.out.cell_far ⟨be, 0, none⟩ (blk_lt HB.out) hnb.out).trans q0; have qp := (h3.out.cell_far ⟨pe, 8, none⟩ (blk_lt HP.out) hnp.out).trans q8; clear h4))
  all_goals go_end0
  all_goals exact ⟨rfl, _, blk_far (p := ⟨pe, 8, none⟩) (blk_grown (w := w1.drew) HB.out h3.out hnb.out) hne _, blk_put (blk_grown (w := w1.drew) HP.out h3.out hnp.out) 8 _ rfl, by rw [HA.out]; exact Kd.R_set h1.out (blk_grown (w := w1.drew) HP.out h3.out hnp.out) (by decide) 8 _, h2.out.setCell (p := ⟨pe, 8, none⟩) hB _, fun k o h h1 h2 => (Below.heap_setCell w2 ⟨pe, 8, none⟩ _ k h1).trans ((h3.out.block k (blk_lt (w := w1) h) h2).trans h)⟩
end Go.Proofs.YtlmpoiohbelkjaaGreatDoor.Hi

namespace Go.Proofs.YtlmpoiohbelkjaaGreatDoor.Hi
open Go Go.RowKit Go.Proofs.YtlmpoiohbelkjaaGreatDoorW.PrintWords Go.Proofs.YtlmpoiohbelkjaaGreatDoorW.PrintLast Go.Proofs.YtlmpoiohbelkjaaGreatDoorW.PrintMore Go.Proofs.YtlmpoiohbelkjaaGreatDoor.Pt
set_option linter.unusedVariables false
set_option linter.unusedSimpArgs false
set_option maxHeartbeats 2000000
set_option maxRecDepth 100000
def foldI (l acc : List Int) : List Int := l.foldl addI acc
def closF (es : List Ent) (acc : List Int) (ifs : List Int) : List Int := ifs.foldl (fun a i => addI (foldI (ent es i).clo a) i) acc
def putE (es : List Ent) (c : S53) (above : Int) (ifs : List Int) : Ent := ⟨c, above, if above ≥ 0 then (ent es above).depth + 1 else 0, closF es (if above ≥ 0 then (ent es above).clo else []) ifs⟩
def Rng (n : Nat) (l : List Int) : Prop := l.Nodup ∧ ∀ x ∈ l, 0 ≤ x ∧ x < n
theorem Rng.nil (n : Nat) : Rng n [] := ⟨List.nodup_nil, fun x hx => by cases hx⟩
theorem Rng.add {n : Nat} {l : List Int} (h : Rng n l) {i : Int} (h0 : 0 ≤ i) (h1 : i < n) : Rng n (addI l i) := by
 unfold addI
 split
 ·exact h
 ·rename_i hc
  have hc : i ∉ l := by simpa using hc
  refine ⟨List.nodup_append.2 ⟨h.1, by simp, fun a ha b hb => ?_⟩, fun x hx => ?_⟩
  ·rw [List.mem_singleton.1 hb]
   rintro rfl
   exact hc ha
  ·rcases List.mem_append.1 hx with hx | hx
   ·exact h.2 x hx
   ·rw [List.mem_singleton.1 hx]; exact ⟨h0, h1⟩
theorem Rng.len {n : Nat} : ∀ {l : List Int}, Rng n l → l.length ≤ n := by
 induction n with
 | zero =>
  intro l h
  cases l with
  | nil => simp
  | cons a l => have := h.2 a (by simp); omega
 | succ n ih =>
  intro l h
  have h2 : Rng n (l.erase (n : Int)) := by
   refine ⟨h.1.erase _, fun x hx => ?_⟩; have h3 := h.2 x (List.mem_of_mem_erase hx)
   have h4 : x ≠ (n : Int) := fun e => by
    subst e
    exact (List.Nodup.not_mem_erase h.1) hx
   omega
  have h5 := ih h2
  have h6 : l.length ≤ (l.erase (n : Int)).length + 1 := by
   rw [List.length_erase]
   split <;> omega
  omega
theorem Rng.fold {n : Nat} : ∀ {ks l : List Int}, Rng n l → (∀ x ∈ ks, 0 ≤ x ∧ x < n) → Rng n (foldI ks l)
 | [], l, h, _ => h
 | k :: ks, l, h, hk => Rng.fold (ks := ks) (h.add (hk k (by simp)).1 (hk k (by simp)).2) (fun x hx => hk x (by simp [hx]))
theorem foldI_take {l acc : List Int} {j : Nat} {x : Int} (h : l[j]? = some x) : foldI (l.take (j + 1)) acc = addI (foldI (l.take j) acc) x := by
 unfold foldI; rw [List.take_add_one, h, List.foldl_append]
 rfl
theorem closF_take {es : List Ent} {acc ifs : List Int} {j : Nat} {x : Int} (h : ifs[j]? = some x) : closF es acc (ifs.take (j + 1)) = addI (foldI (ent es x).clo (closF es acc (ifs.take j))) x := by
 unfold closF; rw [List.take_add_one, h, List.foldl_append]
 rfl
theorem Rng.clos {n : Nat} {es : List Ent} (he : ∀ x ∈ es, Rng n x.clo) : ∀ {ifs acc : List Int}, Rng n acc → (∀ i ∈ ifs, 0 ≤ i ∧ i < es.length) → es.length ≤ n → Rng n (closF es acc ifs)
 | [], acc, h, _, _ => h
 | i :: ifs, acc, h, hi, hn => by
  have h1 := hi i (by simp); have hm : ent es i ∈ es := List.mem_of_getElem? (get_ent h1.1 h1.2)
  exact Rng.clos he (ifs := ifs) ((h.fold (he _ hm).2).add h1.1 (by omega)) (fun x hx => hi x (by simp [hx])) hn
end Go.Proofs.YtlmpoiohbelkjaaGreatDoor.Hi

namespace Go.Proofs.YtlmpoiohbelkjaaGreatDoor.Hi
open Go Go.RowKit Go.Proofs.YtlmpoiohbelkjaaGreatDoorW.PrintWords Go.Proofs.YtlmpoiohbelkjaaGreatDoorW.PrintLast Go.Proofs.YtlmpoiohbelkjaaGreatDoorW.PrintMore Go.Proofs.YtlmpoiohbelkjaaGreatDoor.Pt
set_option linter.unusedVariables false
set_option linter.unusedSimpArgs false
theorem M_push {α : Type} {d : Kd α} {w w2 : World} {base : Nat} {x : α} {cs : List Value} (h : d.M w base (fun _ => True) x cs) {u : Value} {e size n B : Nat} {inner : List Value} (ho : w.ownsRow B e size u n inner) (hg : w.grownBy w2 u.ownBlock)
  {g t : Nat} {cells : Array Value} (hb : w.heap[g]? = some (.cells cells t (0, 0))) (he : ∀ q, q ∈ d.E → q ≠ e) (ht : ∀ q, q ∈ d.E → q ≠ t) (j : Nat) (z : Value) : d.M (w2.setCell ⟨g, j, none⟩ z) base (fun _ => True) x cs := by
 have h1 : d.M w base (fun k => True ∧ some k ≠ u.ownBlock ∧ k ≠ g) x cs := d.M_mono (fun k hk => ⟨trivial, fun ek => by
  obtain ⟨_, _, _, q, hq, c, hc⟩ := hk; obtain ⟨c', hc'⟩ := own_typed ho k ek.symm; rw [hc] at hc'; injection hc' with hc'; injection hc' with _ hc'
  exact he q hq hc', fun ek => by
  obtain ⟨_, _, _, q, hq, c, hc⟩ := hk; subst ek; rw [hc] at hb; injection hb with hb; injection hb with _ hb
  exact ht q hq hb⟩) (d.M_bound h)
 have h2 : d.M (w2.setCell ⟨g, j, none⟩ z) base (fun k => True ∧ some k ≠ u.ownBlock ∧ k ≠ g) x cs := Kd.M_step h1 (fun k hk hlt => (Below.heap_setCell w2 ⟨g, j, none⟩ z k hk.2.2).trans (hg.block k hlt hk.2.1))
 exact d.M_mono (fun _ _ => trivial) h2
theorem WIn.push {w w2 : World} {base g : Nat} {v v' : Value} {mb : Nat} {ps : List Nat} {es : List Ent} (h : WIn w base g v mb ps es) (hg : w.grownBy w2 v.ownBlock) {p : Nat} (hrow : Kd.R kP 89 w2 base (fun _ => True) v' (ps ++ [p]))
  {x : Ent} {cells : Array Value} (hp : w.heap[p]? = some (.cells cells 93 (0, 0))) (hx : kE.M w base (fun _ => True) x cells.toList) (hbp : base ≤ p) :
  let W := w2.setCell ⟨g, 0, none⟩ v'
  W.heap[g]? = some (.cells #[v', .map (some mb)] 101 (0, 0)) ∧ Kd.R kP 89 W base (fun _ => True) v' (ps ++ [p]) ∧
  (∀ (j : Nat) (y : Ent) (q : Nat), (es ++ [x])[j]? = some y → (ps ++ [p])[j]? = some q → base ≤ q ∧ ∃ cells, W.heap[q]? = some (.cells cells 93 (0, 0)) ∧ kE.M W base (fun _ => True) y cells.toList) ∧
  ∃ D : DataW Unit, W.ownsMap Tryz.prog 9 (plainElem Tryz.prog 3) mb es.length D ∧ MapSays D (es.map (·.c.f0)) := by
 intro W; obtain ⟨inner, ho⟩ := Kd.R_own h.row; have hgn : some g ≠ v.ownBlock := Kd.R_ne h.row h.blk (by decide); have hg2 := blk_grown h.blk hg hgn; refine ⟨blk_put hg2 0 v' rfl, Kd.R_set hrow hg2 (by decide) 0 v', ?_, ?_⟩
 ·intro j y q hy hq
  have hpg : ∀ {q : Nat} {cs : Array Value}, w.heap[q]? = some (.cells cs 93 (0, 0)) → W.heap[q]? = some (.cells cs 93 (0, 0)) := fun {q cs} hq => blk_far (p := ⟨g, 0, none⟩) (blk_grown hq hg (Kd.R_ne h.row hq (by decide))) (blk_ne hq h.blk (by decide)) v'
  by_cases hj : j < es.length
  ·rw [List.getElem?_append_left hj] at hy
   rw [List.getElem?_append_left (by rw [h.len]; exact hj)] at hq; obtain ⟨h1, cs, h2, h3⟩ := h.ent j y q hy hq
   exact ⟨h1, cs, hpg h2, M_push h3 ho hg h.blk (by decide) (by decide) 0 v'⟩
  ·have hj2 : j = es.length := by
    have := (List.getElem?_eq_some_iff.1 hy).1; simp at this
    omega
   subst hj2; rw [List.getElem?_append_right (Nat.le_refl _)] at hy; rw [← h.len, List.getElem?_append_right (Nat.le_refl _)] at hq; simp at hy hq; subst hy hq
   exact ⟨hbp, cells, hpg hp, M_push hx ho hg h.blk (by decide) (by decide) 0 v'⟩
 ·obtain ⟨D, h1, h2⟩ := h.map
  have hmb : some mb ≠ v.ownBlock := fun e => by
   obtain ⟨c, hc⟩ := own_typed ho mb e.symm; obtain ⟨es1, clock, hbk, _⟩ := h1; rw [hbk] at hc
   cases hc
  have hne : mb ≠ g := fun e => by
   obtain ⟨es1, clock, hbk, _⟩ := h1; have := h.blk; rw [e, this] at hbk
   cases hbk
  exact ⟨D, (h1.kept hg hmb).setCell (a := ⟨g, 0, none⟩) hne v', h2⟩
theorem WIn.mapped {W w3 : World} {base g : Nat} {v' : Value} {mb : Nat} {ps : List Nat} {es : List Ent}
  (hg : base ≤ g) (hblk : W.heap[g]? = some (.cells #[v', .map (some mb)] 101 (0, 0))) (hrow : Kd.R kP 89 W base (fun _ => True) v' ps) (hlen : ps.length = es.length)
  (hent : ∀ (j : Nat) (y : Ent) (q : Nat), es[j]? = some y → ps[j]? = some q → base ≤ q ∧ ∃ cells, W.heap[q]? = some (.cells cells 93 (0, 0)) ∧ kE.M W base (fun _ => True) y cells.toList) (hmb : base ≤ mb)
  {es1 : Array MapEntry} {clock : Nat} (hm : W.heap[mb]? = some (.map es1 clock)) (hgr : W.grownBy w3 (some mb)) {D : DataW Unit} (hD : w3.ownsMap Tryz.prog 9 (plainElem Tryz.prog 3) mb es.length D) (hs : MapSays D (es.map (·.c.f0))) :
  WIn w3 base g v' mb ps es := by
 have hk : ∀ {k : Nat} {cs : Array Value} {t : Nat}, W.heap[k]? = some (.cells cs t (0, 0)) → some k ≠ some mb := fun {k cs t} h e => by
  injection e with e; subst e; rw [h] at hm
  cases hm
 have hmv : ∀ {α : Type} {d : Kd α} {x : α} {cs : List Value}, d.M W base (fun _ => True) x cs → d.M w3 base (fun _ => True) x cs := fun {α d x cs} h => by
  have h1 := d.M_bound h
  exact d.M_mono (fun _ _ => trivial) (d.M_move (fun k hk2 => by
   obtain ⟨_, _, hlt, q, hq, c, hc⟩ := hk2
   exact hgr.block k hlt (hk hc)) h1)
 refine ⟨hg, blk_grown hblk hgr (hk hblk), ?_, hlen, fun j y q hy hq => ?_, hmb, D, hD, hs⟩
 ·have h1 := Kd.R_bound hrow
  exact Kd.R_mono (Kd.R_move h1 (fun k hk2 => by
   obtain ⟨_, _, hlt, q, hq, c, hc⟩ := hk2
   exact hgr.block k hlt (hk hc))) (fun _ _ => trivial)
 ·obtain ⟨h1, cs, h2, h3⟩ := hent j y q hy hq
  exact ⟨h1, cs, blk_grown h2 hgr (hk h2), hmv h3⟩
end Go.Proofs.YtlmpoiohbelkjaaGreatDoor.Hi

namespace Go.Proofs.YtlmpoiohbelkjaaGreatDoor.Hi
open Go Go.RowKit Go.Proofs.YtlmpoiohbelkjaaGreatDoorW.PrintWords Go.Proofs.YtlmpoiohbelkjaaGreatDoorW.PrintLast Go.Proofs.YtlmpoiohbelkjaaGreatDoorW.PrintMore Go.Proofs.YtlmpoiohbelkjaaGreatDoor.Pt
set_option linter.unusedVariables false
set_option linter.unusedSimpArgs false
set_option maxHeartbeats 4000000
set_option maxRecDepth 100000
theorem info_P : (Tryz.prog.info? 89).map (fun i => (i.zero, i.size, i.bytes)) = some (some (.pointer none), kP.sz, 8) := by kernel_rfl
theorem three_new (w : World) (o1 o2 o3 : Obj) : (((w.alloc o1).alloc o2).alloc o3).heap[w.heap.size]? = some o1 ∧ (((w.alloc o1).alloc o2).alloc o3).heap[w.heap.size + 1]? = some o2 ∧ (((w.alloc o1).alloc o2).alloc o3).heap[w.heap.size + 1 + 1]? = some o3 ∧ Below w.heap.size w (((w.alloc o1).alloc o2).alloc o3) := by
 have e1 : (w.alloc o1).heap.size = w.heap.size + 1 := by simp
 have e2 : ((w.alloc o1).alloc o2).heap.size = w.heap.size + 1 + 1 := by simp
 refine ⟨blk_alloc (blk_alloc (blk_new w o1) o2) o3, ?_, ?_, ?_⟩
 ·have := blk_alloc (blk_new (w.alloc o1) o2) o3
  rwa [e1] at this
 ·have := blk_new ((w.alloc o1).alloc o2) o3
  rwa [e2] at this
 ·exact (((Below.refl _ _).alloc (Nat.le_refl _) _).alloc (by omega) _).alloc (by omega) _
theorem WIn_all_at {w : World} {base g : Nat} {A : Option Addr} {n c : Nat} {mb : Nat} {ps : List Nat} {es : List Ent} (h : WIn w base g (.slice A n c) mb ps es) {i : Int} (h0 : 0 ≤ i) (h1 : i < es.length) :
  n = es.length ∧ ∃ ad p A2 c2 A5 c5 A8 c8, A = some ad ∧ w.cell? (ad.add i.toNat) = some (.pointer (some ⟨p, 0, none⟩)) ∧
   w.heap[p]? = some (.cells #[.string (ent es i).c.f0, .string (ent es i).c.f1, .slice A2 (ent es i).c.f2.length c2, .int .i64 (ent es i).c.f3, .int .i64 (ent es i).c.f4, .slice A5 (ent es i).c.f5.length c5, .int .i64 (ent es i).above, .int .i64 (ent es i).depth, .slice A8 (ent es i).clo.length c8] 93 (0, 0)) ∧
   Kd.C Kd.string w A2 (ent es i).c.f2.length (ent es i).c.f2 ∧ Kd.C k111 w A5 (ent es i).c.f5.length (ent es i).c.f5 ∧ Kd.C (Kd.int .i64) w A8 (ent es i).clo.length (ent es i).clo := by
 have hl := h.len; obtain ⟨p, cells, hp, hb, hK⟩ := h.at_ h0 h1; obtain ⟨A', c', ev, hlc, RC⟩ := Kd.R_reads h.row; injection ev with e1 e2 e3; subst e1 e3; refine ⟨by omega, ?_⟩; obtain ⟨ad, cc, ea, hcl, hKK, hcell⟩ := Kd.C_get RC 0 i h0 (by omega); obtain rfl : cc = [ptrE (ps.getD i.toNat 0)] := hKK; have hc := hcell 0 _ rfl; rw [show kP.sz = 1 from rfl, Nat.mul_one, Nat.add_zero] at hc; rw [show atP ps i = ptrE (ps.getD i.toNat 0) from if_pos ⟨h0, by omega⟩] at hp; rw [hp] at hc; obtain ⟨A2, c2, A5, c5, A8, c8, hcs, l2, g2, l5, g5, l8, g8⟩ := kE_open hK; have hcs := Array.toList_inj.1 hcs; rw [hcs] at hb
 exact ⟨ad, p, A2, c2, A5, c5, A8, c8, ea, hc, hb, g2, g5, g8⟩
def KeptT (w w' : World) : Prop := ∀ (k : Nat) (cells : Array Value) (t : Nat), w.heap[k]? = some (.cells cells t (0, 0)) → t ≠ 101 → t ≠ 89 → w'.heap[k]? = some (.cells cells t (0, 0))
theorem KeptT.of_below {w w' : World} (h : Below w.heap.size w w') : KeptT w w' := fun k cells t hk _ _ => blk_below hk h
theorem KeptT.trans {w w1 w2 : World} (h : KeptT w w1) (h2 : KeptT w1 w2) : KeptT w w2 := fun k cells t hk h3 h4 => h2 k cells t (h k cells t hk h3 h4) h3 h4
structure Lay (w wr : World) (x0 x1 x2 x3 x4 x5 : Value) (ab dp : Int) (clo : List Int) : Prop where
 b5 : wr.heap[w.heap.size]? = some (.cells #[x0, x1, x2, x3, x4, x5] 53 (0, 0))
 pe : ∃ v8, wr.heap[w.heap.size + 1]? = some (.cells #[x0, x1, x2, x3, x4, x5, .int .i64 ab, .int .i64 dp, v8] 93 (0, 0)) ∧ Kd.R (Kd.int .i64) 3 wr w.heap.size (fun _ => True) v8 clo
 be : wr.heap[w.heap.size + 1 + 1]? = some (.cells #[ptrE (w.heap.size + 1)] 89 (0, 0))
 hb : Below w.heap.size w wr
theorem Lay.below {w wr wr1 : World} {x0 x1 x2 x3 x4 x5 : Value} {ab dp : Int} {clo : List Int} (h : Lay w wr x0 x1 x2 x3 x4 x5 ab dp clo) (hb : Below wr.heap.size wr wr1) : Lay w wr1 x0 x1 x2 x3 x4 x5 ab dp clo := by
 obtain ⟨h1, ⟨v8, h2, h3⟩, h4, h5⟩ := h
 exact ⟨blk_below h1 hb, ⟨v8, blk_below h2 hb, Kd.R_below h3 hb⟩, blk_below h4 hb, h5.trans (hb.mono h5.size)⟩
theorem Lay.add {w wr : World} {x0 x1 x2 x3 x4 x5 : Value} {ab dp : Int} {clo : List Int} (h : Lay w wr x0 x1 x2 x3 x4 x5 ab dp clo) (hl : clo.length ≤ 1000) (id : Int) :
  Calls Tryz.prog 49 #[.int .i64 id, .pointer (some ⟨w.heap.size + 1 + 1, 0, none⟩)] wr fun e w' => e = .returned (.tuple #[]) ∧ Lay w w' x0 x1 x2 x3 x4 x5 ab dp (addI clo id) := by
 obtain ⟨h1, ⟨v8, h2, h3⟩, h4, h5⟩ := h; have hlt := blk_lt h1; refine (add_any wr w.heap.size (w.heap.size + 1) (w.heap.size + 1 + 1) _ _ _ _ _ _ _ _ v8 clo id h4 h2 h3 (by omega) h5.size (by omega)).mono ?_; rintro e w' ⟨rfl, v9, g4, g2, g3, hb, hk⟩
 exact ⟨rfl, hk _ _ h1 (by omega) (Kd.R_ne h3 h1 (by decide)), ⟨v9, g2, g3⟩, g4, h5.trans hb⟩
def depF (es : List Ent) (above : Int) : Int := if above ≥ 0 then (ent es above).depth + 1 else 0
def cloF (es : List Ent) (above : Int) : List Int := if above ≥ 0 then (ent es above).clo else []
theorem put_any (w : World) (base g : Nat) (v : Value) (mb : Nat) (ps : List Nat) (es : List Ent) (h : WIn w base g v mb ps es) (hbs : base ≤ w.heap.size)
  (f0 f1 : ByteArray) (v2 v5 : Value) (l2 : List ByteArray) (f3 f4 : Int) (l5 : List S111) (R2 : Kd.R Kd.string 9 w base (fun _ => True) v2 l2) (R5 : Kd.R k111 111 w base (fun _ => True) v5 l5)
  (above : Int) (ha : above = -1 ∨ (0 ≤ above ∧ above < es.length)) (Ai : Option Addr) (ci : Nat) (ifs : List Int) (hi : Kd.C (Kd.int .i64) w Ai ifs.length ifs) (hr : ∀ i ∈ ifs, 0 ≤ i ∧ i < es.length)
  (hlen : es.length ≤ 1000) (hclo : ∀ x ∈ es, Rng es.length x.clo ∧ 0 ≤ x.depth ∧ x.depth ≤ 1000) (hil : ifs.length ≤ 1000) (hn : f0 ∉ es.map (·.c.f0)) (hs : f0.size ≤ 9223372036854775807) :
  Calls Tryz.prog 38 #[.pointer (some ⟨g, 0, none⟩), .agg #[.string f0, .string f1, v2, .int .i64 f3, .int .i64 f4, v5], .int .i64 above, .slice Ai ifs.length ci] w fun e w' =>
   e = .returned (.int .i64 es.length) ∧ ∃ v' p, WIn w' base g v' mb (ps ++ [p]) (es ++ [putE es ⟨f0, f1, l2, f3, f4, l5⟩ above ifs]) ∧ Below base w w' ∧ KeptT w w' := by
 obtain ⟨A2, c2, rfl⟩ := Kd.R_slice R2; obtain ⟨A5, c5, rfl⟩ := Kd.R_slice R5; have H := Lib.hid h; have HR2 := Lib.hid R2; have HR5 := Lib.hid R5; have HI := Lib.hid hi; have HRI := Lib.hid hr; have HC := Lib.hid hclo; have HN := Lib.hid hn; have hgl := blk_lt h.blk; have qg0 : w.cell? ⟨g, 0, none⟩ = some v := (blk_cell h.blk 0).trans rfl; have qg1 : w.cell? ⟨g, 1, none⟩ = some (.map (some mb)) := (blk_cell h.blk 1).trans rfl; obtain ⟨Av, cv, rfl⟩ := Kd.R_slice h.row; clear h R2 R5 hi hr hclo hn; go_enter Tryz.func38, Tryz.ntmps38
 go_upto_region 1 with (fail)
 go_cut [9] (fun v9 wc => v9 = .pointer (some ⟨w.heap.size + 1 + 1, 0, none⟩) ∧ Hid (wc.heap[w.heap.size]? = some (.cells #[.string f0, .string f1, .slice A2 l2.length c2, .int .i64 f3, .int .i64 f4, .slice A5 l5.length c5] 53 (0, 0))) ∧ Hid (wc.heap[w.heap.size + 1]? = some (.cells #[.string f0, .string f1, .slice A2 l2.length c2, .int .i64 f3, .int .i64 f4, .slice A5 l5.length c5, .int .i64 above, .int .i64 0, .slice none 0 0] 93 (0, 0))) ∧ Hid (wc.heap[w.heap.size + 1 + 1]? = some (.cells #[ptrE (w.heap.size + 1)] 89 (0, 0))) ∧ Hid (Below w.heap.size w wc))
 case first =>
  go_wp2; go_meet
  case rel => exact ⟨rfl, Lib.hid (three_new _ _ _ _).1, Lib.hid (three_new _ _ _ _).2.1, Lib.hid (three_new _ _ _ _).2.2.1, Lib.hid (three_new _ _ _ _).2.2.2⟩
 case rest =>
  obtain ⟨rfl, B5, PE, BE, HB⟩ := hcut
  go_upto_if 21 with (fail)
  go_cut [] (fun wc => Hid (Lay w wc (.string f0) (.string f1) (.slice A2 l2.length c2) (.int .i64 f3) (.int .i64 f4) (.slice A5 l5.length c5) above (depF es above) (cloF es above)))
  case first =>
   by_cases h0 : 0 ≤ above
   ·have hd : decide (0 ≤ above) = true := decide_eq_true h0
    have h1 : above < es.length := by omega
    have e1 : Hid (depF es above = (ent es above).depth + 1) := Lib.hid (if_pos h0); have e2 : Hid (cloF es above = (ent es above).clo) := Lib.hid (if_pos h0); obtain ⟨hnl, ad, p, A2', c2', A5', c5', A8', c8', rfl, hrow, hent, g2, g5, g8⟩ := WIn_all_at H.out h0 h1; have hm : ent es above ∈ es := List.mem_of_getElem? (get_ent h0 h1); have hdep := (HC.out _ hm).2; have hxl := Lib.hid (show (ent es above).clo.length * 8 ≤ 140737488355328 by have := (HC.out _ hm).1.len; omega); generalize ent es above = x at *; have hpl : p < w.heap.size := blk_lt hent; have hp7 : w.cell? ⟨p, 7, none⟩ = some (.int .i64 x.depth) := (blk_cell hent 7).trans rfl; have hp8 : w.cell? ⟨p, 8, none⟩ = some (.slice A8' x.clo.length c8') := (blk_cell hent 8).trans rfl; clear g2 g5 hm hent; replace hrow := Lib.hid hrow; replace hp7 := Lib.hid hp7; replace hp8 := Lib.hid hp8; replace g8 := Lib.hid g8
    have hlt : above < (ps.length : Int) := by omega
    have hb0 : wc.cell? ⟨w.heap.size + 1 + 1, 0, none⟩ = some (.pointer (some ⟨w.heap.size + 1, 0, none⟩)) := (blk_cell BE.out 0).trans rfl; have hx7 : wc.cell? ⟨w.heap.size + 1, 7, none⟩ = some (.int .i64 0) := (blk_cell PE.out 7).trans rfl; have hf7 := blk_frozen PE.out 7; have hg0 := pw_cell_below HB.out qg0; have hrow1 := pw_cell_below HB.out hrow.out; have hp71 := pw_cell_below HB.out hp7.out; have F1 := Lib.hid (blk_drew (blk_far (p := ⟨w.heap.size + 1, 7, none⟩) B5.out (by simp) (.int .i64 (x.depth + 1)))); have F2 := Lib.hid (blk_drew (blk_put PE.out 7 (.int .i64 (x.depth + 1)) rfl)); have F3 := Lib.hid (blk_drew (blk_far (p := ⟨w.heap.size + 1, 7, none⟩) BE.out (by simp) (.int .i64 (x.depth + 1)))); have F4 := Lib.hid (below_drew1 (HB.out.setCell (p := ⟨w.heap.size + 1, 7, none⟩) (Nat.le_succ _) (.int .i64 (x.depth + 1))))
    go_upto_region 3 with (fail)
    go_region; generalize (wc.setCell ⟨w.heap.size + 1, 7, none⟩ (.int .i64 (x.depth + 1))).drew = W at *; clear hb0 hx7 hf7 hg0 hrow1 hp71 B5 PE BE HB; have hb0 : W.cell? ⟨w.heap.size + 1 + 1, 0, none⟩ = some (.pointer (some ⟨w.heap.size + 1, 0, none⟩)) := (blk_cell F3.out 0).trans rfl; have hx8 : W.cell? ⟨w.heap.size + 1, 8, none⟩ = some (.slice none 0 0) := (blk_cell F2.out 8).trans rfl; have hf8 := blk_frozen F2.out 8; have hg0 := pw_cell_below F4.out qg0; have hrow1 := pw_cell_below F4.out hrow.out; have hp81 := pw_cell_below F4.out hp8.out; have CL := Lib.hid (fun (W' : World) (hb : Below W.heap.size W W') => cloneInt A8' c8' x.clo W' (Kd.C_below g8.out (F4.out.trans (hb.mono F4.out.size))) hxl.out); go_wp2_with fail
    go_region_with (go_at_call 48; refine (CL.out _ (by repeat (first | exact Below.refl _ _ | apply below_drew1 | apply pw_below_drewN))).mono ?_; rintro e w10 ⟨v8, rfl, R8, hb10⟩; obtain ⟨A9, c9, rfl⟩ := Kd.R_slice R8; have hb11 : Hid (Below W.heap.size W w10) := Lib.hid ⟨hb10.os, hb10.tape, hb10.output, hb10.size, hb10.block⟩; have hb02 := pw_cell_below hb11.out hb0; have hx82 := pw_cell_below hb11.out hx8; have hf82 := blk_frozen (blk_below F2.out hb11.out) 8; replace R8 := Lib.hid R8; replace hb10 := Lib.hid hb10)
    all_goals have G1 := Lib.hid (blk_far (p := ⟨w.heap.size + 1, 8, none⟩) (blk_below F1.out hb11.out) (by simp) (.slice A9 x.clo.length c9))
    all_goals have G2 := Lib.hid (blk_put (blk_below F2.out hb11.out) 8 (.slice A9 x.clo.length c9) rfl)
    all_goals have G3 := Lib.hid (blk_far (p := ⟨w.heap.size + 1, 8, none⟩) (blk_below F3.out hb11.out) (by simp) (.slice A9 x.clo.length c9))
    all_goals have G4 := Lib.hid ((F4.out.trans (hb11.out.mono F4.out.size)).setCell (p := ⟨w.heap.size + 1, 8, none⟩) (Nat.le_succ _) (.slice A9 x.clo.length c9))
    all_goals have G5 := Lib.hid (Kd.R_set (Kd.R_lower R8.out (show w.heap.size ≤ _ from F4.out.size)) (blk_below F2.out hb11.out) (by decide) 8 (.slice A9 x.clo.length c9))
    all_goals clear hb02 hx82 hf82 R8 hb10
    all_goals go_wp2
    all_goals go_meet
    all_goals (case rel => exact Lib.hid ⟨G1.out, ⟨_, by rw [e1.out]; exact G2.out, by rw [e2.out]; exact G5.out⟩, G3.out, G4.out⟩)
   ·have hd : decide (0 ≤ above) = false := decide_eq_false h0
    have e1 : depF es above = 0 := if_neg (by omega); have e2 : cloF es above = [] := if_neg (by omega); replace e1 := Lib.hid e1; replace e2 := Lib.hid e2; go_wp2; go_meet
    case rel => exact Lib.hid ⟨B5.out, ⟨.slice none 0 0, by rw [e1.out]; exact PE.out, by rw [e2.out]; exact Kd.R_nil _ _ _ _ _⟩, BE.out, HB.out⟩
  case rest =>
   go_upto_block 0 with (fail)
   go_cut [] (fun wc => Hid (Lay w wc (.string f0) (.string f1) (.slice A2 l2.length c2) (.int .i64 f3) (.int .i64 f4) (.slice A5 l5.length c5) above (depF es above) (closF es (cloF es above) ifs)))
   case first =>
    go_wp2_with fail
    go_loopw [53] (fun i wr => ∃ k : Nat, k ≤ ifs.length ∧ i = .int .i64 k ∧ Hid (Lay w wr (.string f0) (.string f1) (.slice A2 l2.length c2) (.int .i64 f3) (.int .i64 f4) (.slice A5 l5.length c5) above (depF es above) (closF es (cloF es above) (ifs.take k)))) (fun i _ => ifs.length - (intOf i).toNat)
    case atStart => exact ⟨0, Nat.zero_le _, rfl, hcut⟩
    case round =>
     clear hcut; obtain ⟨k, hk, rfl, LY⟩ := hrel
     by_cases hlt : k < ifs.length
     ·obtain ⟨ad0, cc, rfl, hcl, hKK, hic⟩ := Kd.C_get HI.out 0 (k : Int) (by omega) (by omega)
      obtain rfl : cc = [.int .i64 (ifs.getD k 0)] := hKK; have hic := hic 0 _ rfl; rw [show (Kd.int .i64).sz = 1 from rfl, Nat.mul_one, Nat.add_zero, Int.toNat_natCast] at hic
      have hx : ifs[k]? = some (ifs.getD k 0) := by rw [List.getD_eq_getElem?_getD, List.getElem?_eq_getElem hlt]; rfl
      obtain ⟨hi0, hi1⟩ := HRI.out _ (List.mem_of_getElem? hx); have HT := Lib.hid (fun (ci : Nat) (L : List Int) (h : L = closF es (cloF es above) (ifs.take k)) => h); have hTk := Lib.hid (closF_take (es := es) (acc := cloF es above) hx)
      have hRk : Hid (Rng es.length (closF es (cloF es above) (ifs.take k))) := Lib.hid (Rng.clos (fun x hx => (HC.out x hx).1) (by
       unfold cloF
       split
       ·exact (HC.out _ (List.mem_of_getElem? (get_ent (by assumption) (by omega)))).1
       ·exact Rng.nil _) (fun i hi => HRI.out i (List.mem_of_mem_take hi)) (Nat.le_refl _))
      generalize ifs.getD k 0 = i at *; obtain ⟨hnl, ad, p, A2', c2', A5', c5', A8', c8', rfl, hrow, hent, g2, g5, g8⟩ := WIn_all_at H.out hi0 hi1; have hm : ent es i ∈ es := List.mem_of_getElem? (get_ent hi0 hi1); have hRx := Lib.hid (HC.out _ hm).1
      have hxb : (ent es i).clo.length ≤ 1000 := by have := hRx.out.len; omega
      generalize ent es i = x at *; have hp8 : w.cell? ⟨p, 8, none⟩ = some (.slice A8' x.clo.length c8') := (blk_cell hent 8).trans rfl; clear g2 g5 hm hent hx HT; replace hrow := Lib.hid hrow; replace hp8 := Lib.hid hp8; replace g8 := Lib.hid g8; replace hic := Lib.hid hic; have hic1 := pw_cell_below LY.out.hb hic.out; have hg0 := pw_cell_below LY.out.hb qg0; have hrow1 := pw_cell_below LY.out.hb hrow.out; have hp81 := pw_cell_below LY.out.hb hp8.out
      have hlt2 : i < (ps.length : Int) := by omega
      have hlk : decide (k < ifs.length) = true := decide_eq_true hlt; go_wp2_with fail
      go_loopw [68] (fun jv wr => ∃ j : Nat, j ≤ x.clo.length ∧ jv = .int .i64 j ∧ Hid (Lay w wr (.string f0) (.string f1) (.slice A2 l2.length c2) (.int .i64 f3) (.int .i64 f4) (.slice A5 l5.length c5) above (depF es above) (foldI (x.clo.take j) (closF es (cloF es above) (ifs.take k))))) (fun jv _ => x.clo.length - (intOf jv).toNat)
      case atStart => exact ⟨0, Nat.zero_le _, rfl, LY⟩
      case round =>
       clear LY hic1 hg0 hrow1 hp81; obtain ⟨j, hj, rfl, LZ⟩ := hrel
       by_cases hjl : j < x.clo.length
       ·obtain ⟨ad2, cc2, rfl, hcl2, hKK2, hjc⟩ := Kd.C_get g8.out 0 (j : Int) (by omega) (by omega)
        obtain rfl : cc2 = [.int .i64 (x.clo.getD j 0)] := hKK2; have hjc := hjc 0 _ rfl; rw [show (Kd.int .i64).sz = 1 from rfl, Nat.mul_one, Nat.add_zero, Int.toNat_natCast] at hjc
        have hy : x.clo[j]? = some (x.clo.getD j 0) := by rw [List.getD_eq_getElem?_getD, List.getElem?_eq_getElem hjl]; rfl
        have hf := Lib.hid (foldI_take (acc := closF es (cloF es above) (ifs.take k)) hy); have hln : (foldI (x.clo.take j) (closF es (cloF es above) (ifs.take k))).length ≤ 1000 := Nat.le_trans (hRk.out.fold (ks := x.clo.take j) (fun y hy => hRx.out.2 y (List.mem_of_mem_take hy))).len hlen; generalize x.clo.getD j 0 = y at *; have hjc1 := pw_cell_below LZ.out.hb hjc; have hjd : decide (j < x.clo.length) = true := decide_eq_true hjl; have CA := Lib.hid (LZ.out.add hln y); clear LZ hy hln hjc; go_wp2_with (go_at_call 49; refine CA.out.mono ?_; rintro e w2 ⟨rfl, LW⟩; replace LW := Lib.hid LW); refine ⟨⟨j + 1, by omega, by push_cast; rfl, by rw [hf.out]; exact LW⟩, by simp [intOf]; omega⟩
       ·obtain rfl : j = x.clo.length := by omega
        rw [List.take_length] at LZ; have hln : (foldI x.clo (closF es (cloF es above) (ifs.take k))).length ≤ 1000 := Nat.le_trans (hRk.out.fold (ks := x.clo) hRx.out.2).len hlen
        have hjd : decide (x.clo.length < x.clo.length) = false := by simp
        have CA := Lib.hid (LZ.out.add hln i); clear LZ hln; go_wp2_with (go_at_call 49; refine CA.out.mono ?_; rintro e w2 ⟨rfl, LW⟩; replace LW := Lib.hid LW); refine ⟨⟨k + 1, by omega, by push_cast; rfl, by rw [hTk.out]; exact LW⟩, by simp [intOf]; omega⟩
     ·obtain rfl : k = ifs.length := by omega
      rw [List.take_length] at LY
      have hge : decide (ifs.length < ifs.length) = false := by simp
      go_wp2; go_meet
      case rel => exact LY
   case rest =>
    replace LY := hcut; obtain ⟨B5, ⟨v8, PE, R8⟩, BE, HB⟩ := LY.out
    have HRW := (H.out.below HB)
    have hg0 := pw_cell_below HB qg0; replace HRW := Lib.hid HRW; replace B5 := Lib.hid B5; replace PE := Lib.hid PE; replace R8 := Lib.hid R8; replace BE := Lib.hid BE; replace HB := Lib.hid HB; clear LY hcut; have hgl2 : g < wc.heap.size := Nat.lt_of_lt_of_le hgl HB.out.size; have hbl2 : w.heap.size + 1 + 1 < wc.heap.size := blk_lt BE.out; have hb0 : wc.cell? ⟨w.heap.size + 1 + 1, 0, none⟩ = some (.pointer (some ⟨w.heap.size + 1, 0, none⟩)) := (blk_cell BE.out 0).trans rfl; have hgn : Hid (some g ≠ (Value.slice Av ps.length cv).ownBlock) := Lib.hid (Kd.R_ne HRW.out.row HRW.out.blk (by decide)); have hbn : Hid (some w.heap.size ≠ (Value.slice Av ps.length cv).ownBlock) := Lib.hid (Kd.R_ne HRW.out.row B5.out (by decide)); have hgf := blk_frozen HRW.out.blk 0; have hpl : ps.length = es.length := HRW.out.len; have hgb : Hid (base ≤ g) := Lib.hid HRW.out.hg; replace hpl := Lib.hid hpl
    have hpb : ps.length ≤ 1000 := by rw [hpl.out]; exact hlen
    have hcb : base ≤ wc.heap.size := Nat.le_trans hbs HB.out.size
    go_upto_region 17 with (fail)
    go_cut [] (fun wf => ∃ v1, Hid (wf.heap[g]? = some (.cells #[v1, .map (some mb)] 101 (0, 0)) ∧ Kd.R kP 89 wf base (fun _ => True) v1 (ps ++ [w.heap.size + 1]) ∧
      (∀ (j : Nat) (y : Ent) (q : Nat), (es ++ [putE es ⟨f0, f1, l2, f3, f4, l5⟩ above ifs])[j]? = some y → (ps ++ [w.heap.size + 1])[j]? = some q → base ≤ q ∧ ∃ cells, wf.heap[q]? = some (.cells cells 93 (0, 0)) ∧ kE.M wf base (fun _ => True) y cells.toList) ∧
      ∃ D : DataW Unit, wf.ownsMap Tryz.prog 9 (plainElem Tryz.prog 3) mb es.length D ∧ MapSays D (es.map (·.c.f0))) ∧ Hid (wf.heap[w.heap.size]? = some (.cells #[.string f0, .string f1, .slice A2 l2.length c2, .int .i64 f3, .int .i64 f4, .slice A5 l5.length c5] 53 (0, 0))) ∧ Hid (Below base w wf) ∧ Hid (KeptT w wf))
    case first =>
     go_region_law (first | (refine Kd.R_append_step kP (W := wc.drew) (w0 := wc) base (by rfl) (.tmp 89) (.tmp 91) 99 89 (.pointer none) 8 (by rfl) Tryz.underlying99 info_P rfl (by decide) (by omega) _ ps (w.heap.size + 1) [ptrE (w.heap.size + 1)] (fun _ => True) (fun _ => False) (by rfl) (by rfl) rfl (fun _ h => h.elim) (fun _ _ => trivial) (Kd.R_below HRW.out.row (below_drew1 (Below.refl _ _))) (below_drew1 (Below.refl _ _)) hcb (by omega) ?_; intro v1 w2 h1 h2 h3 h4; obtain ⟨A9, c9, rfl⟩ := Kd.R_slice h1; rw [show (ps ++ [w.heap.size + 1]).length = ps.length + 1 by simp] at h1; replace h1 := Lib.hid h1; replace h2 := Lib.hid h2; replace h3 := Lib.hid h3; have kx := (h3.out.frozen_far ⟨g, 0, none⟩ hgl2 hgn.out).trans hgf; have qx := (h3.out.cell_far ⟨g, 0, none⟩ hgl2 hgn.out).trans hg0; clear h4))
     all_goals have NW := Lib.hid (WIn.push (w := wc.drew) (HRW.out.below (below_drew1 (Below.refl _ _))) h3.out h1.out (x := putE es ⟨f0, f1, l2, f3, f4, l5⟩ above ifs) PE.out
      (kE_mkM wc.drew base (fun _ => True) (putE es ⟨f0, f1, l2, f3, f4, l5⟩ above ifs) (Kd.R_below HR2.out (below_drew1 HB.out)) (Kd.R_below HR5.out (below_drew1 HB.out)) (Kd.R_lower (Kd.R_below R8.out (below_drew1 (Below.refl _ _))) hbs)) (by omega))
     all_goals have NB := Lib.hid (blk_far (p := ⟨g, 0, none⟩) (blk_grown (w := wc.drew) B5.out h3.out hbn.out) (by show w.heap.size ≠ g; omega) (.slice A9 (ps.length + 1) c9))
     all_goals have NC := Lib.hid (((HB.out.mono hbs).trans h2.out).setCell (p := ⟨g, 0, none⟩) hgb.out (.slice A9 (ps.length + 1) c9))
     all_goals have NK : Hid (KeptT w (w2.setCell ⟨g, 0, none⟩ (.slice A9 (ps.length + 1) c9))) := Lib.hid (fun k cells t hk ht1 ht2 => by
      have hk1 := blk_below hk HB.out
      exact blk_far (p := ⟨g, 0, none⟩) (blk_grown (w := wc.drew) hk1 h3.out (Kd.R_ne HRW.out.row hk1 (Ne.symm ht2))) (blk_ne hk1 HRW.out.blk ht1) _)
     all_goals clear h1 h2 h3 kx qx
     all_goals go_wp2
     all_goals go_meet
     all_goals (case rel => exact ⟨_, NW, NB, NC, NK⟩)
    case rest =>
     obtain ⟨v1, NW, B5, HB, HK⟩ := hcut; obtain ⟨hblk, hrow, hent, D, hD, hDs⟩ := NW.out
     have hmx : es.length < maxLen := by unfold maxLen; omega
     obtain ⟨w3, hrun, hD3, hgr⟩ := World.ownsMap.update (w := wc.drew) hD.drew (Maps.string_keyed Tryz.underlying9) Tryz.underlying98 hmx (Go.WideMaps.keyOf_string_mk Tryz.underlying9 hs) (plainElem_int Tryz.underlying3 (WalkArith.wf_i64 (n := (ps.length : Int)) (by omega))); have q1 : wc.cell? ⟨g, 1, none⟩ = some (.map (some mb)) := (blk_cell hblk 1).trans rfl; have q5 : wc.cell? ⟨w.heap.size, 0, none⟩ = some (.string f0) := (blk_cell B5.out 0).trans rfl; obtain ⟨es1, clock, hbk, _⟩ := id hD; rw [hpl.out] at hD3
     have hfin : Hid (WIn w3 base g v1 mb (ps ++ [w.heap.size + 1]) (es ++ [putE es ⟨f0, f1, l2, f3, f4, l5⟩ above ifs])) := Lib.hid (by
      have hb := below_drew1 (Below.refl wc.heap.size wc); refine WIn.mapped (W := wc.drew) hgb.out hblk (Kd.R_below hrow hb) (by simp [hpl.out]) (fun j y q hy hq => ?_) H.out.mbl (es1 := es1) (clock := clock) hbk hgr (by rw [List.length_append]; exact hD3) ?_
      ·obtain ⟨h1, cs, h2, h3⟩ := hent j y q hy hq
       exact ⟨h1, cs, h2, Kd.M_below h3 hb⟩
      ·rw [List.map_append]
       have := MapSays.put hDs f0 HN.out; rw [List.length_map] at this
       exact this)
     have hbw : Hid (Below base w w3) := Lib.hid ((below_drew1 HB.out).grown hgr (Nat.le_trans hbs HB.out.size) (fun k hk => by injection hk with hk; rw [← hk]; exact H.out.mbl))
     have hkt : Hid (KeptT w w3) := Lib.hid (fun k cells t hk ht1 ht2 => by
      have hk1 := HK.out k cells t hk ht1 ht2; refine (hgr.block k (blk_lt (w := wc.drew) hk1) (fun e => ?_)).trans hk1; injection e with e; subst e; rw [hk1] at hbk
      cases hbk)
     clear NW hblk hrow hent hD hDs hD3 hgr hbk HB B5 HK; go_wp2; go_region
     all_goals go_wp2
     all_goals go_ret
     all_goals exact ⟨show Ending.returned (Value.int .i64 ((ps.length : Nat) : Int)) = _ by rw [hpl.out], _, _, hfin.out, hbw.out, hkt.out⟩
end Go.Proofs.YtlmpoiohbelkjaaGreatDoor.Hi

namespace Go.Proofs.YtlmpoiohbelkjaaGreatDoor.Hi
open Go Go.RowKit Go.Proofs.YtlmpoiohbelkjaaGreatDoorW.PrintWords Go.Proofs.YtlmpoiohbelkjaaGreatDoorW.PrintLast Go.Proofs.YtlmpoiohbelkjaaGreatDoorW.PrintMore Go.Proofs.YtlmpoiohbelkjaaGreatDoor.Pt
set_option linter.unusedVariables false
set_option linter.unusedSimpArgs false
set_option maxHeartbeats 2000000
set_option maxRecDepth 100000
theorem look_name {D : DataW Unit} {es : List Ent} (h : MapSays D (es.map (·.c.f0))) (s : ByteArray) (c : Int) (hc : D.atKey (.string s.data.toList) (.lit (.int .i64 0)) = .lit (.int .i64 c)) :
  (Maps.has D (.string s.data.toList) = true → (nameF es s).1 = c ∧ (nameF es s).2 = 0 ∧ 0 ≤ c ∧ c < es.length ∧ (ent es c).c.f0 = s) ∧ (Maps.has D (.string s.data.toList) = false → (nameF es s) = (0, 6)) := by
 obtain ⟨hm, h⟩ := h; obtain ⟨h1, h2⟩ := h s; unfold nameF
 cases hf : (es.map (·.c.f0)).findIdx? (fun t => decide (t = s)) with
 | some i =>
  obtain ⟨hi, hs, _⟩ := List.findIdx?_eq_some_iff_getElem.1 hf; have hs := of_decide_eq_true hs
  have hget : (es.map (·.c.f0))[i]? = some s := by rw [List.getElem?_eq_getElem hi, hs]
  have := h2 i hget; rw [this] at hc; injection hc with hc; injection hc with _ hc; rw [List.length_map] at hi; refine ⟨fun _ => ⟨hc, rfl, by omega, by omega, ?_⟩, fun hn => ?_⟩
  ·rw [← hc]
   rw [List.getElem?_map, List.getElem?_eq_getElem hi] at hget; have := ent_get (List.getElem?_eq_getElem hi); rw [this]
   simpa using hget
  ·have := h1.2 (List.mem_of_getElem? hget)
   rw [hn] at this
   cases this
 | none =>
  refine ⟨fun hy => ?_, fun _ => rfl⟩; have := h1.1 hy; rw [List.findIdx?_eq_none_iff] at hf; have := hf s this; simp at this
theorem zeroInt (w : World) : (zeroValue 3).run Tryz.prog w = .ok (.int .i64 0) w := by kernel_rfl
theorem byName_any (w : World) (g : Nat) (es : List Ent) (hq : WOK w g es) (s : ByteArray) (hs : s.size ≤ 9223372036854775807) :
  Calls Tryz.prog 36 #[.pointer (some ⟨g, 0, none⟩), .string s] w fun e w' => e = .returned (.tuple #[.int .i64 (nameF es s).1, .int .i64 (nameF es s).2]) ∧ Below w.heap.size w w' := by
 obtain ⟨⟨base, v, mb, ps, h⟩, hf, ht, hlen⟩ := hq; obtain ⟨D, hD, hS⟩ := h.map; have q1 : w.cell? ⟨g, 1, none⟩ = some (.map (some mb)) := (blk_cell h.blk 1).trans rfl; replace hS := Lib.hid hS; replace hD := Lib.hid hD; clear h hf ht
 cases hh : Maps.has D (.string s.data.toList)
 ·have LN := Lib.hid (fun c hc => (look_name hS.out s c hc).2 hh)
  go_enter Tryz.func36, Tryz.ntmps36; go_wp2_with (at_lookup; refine wpList_lookup_own_ok_int _ rfl _ _ 98 rfl 9 3 .i64 (Maps.string_keyed Tryz.underlying9) Tryz.underlying98 Tryz.underlying3 (zeroInt _) mb es.length D rfl hD.out _ _ rfl (Go.WideMaps.keyOf_string_mk Tryz.underlying9 hs) ?_; intro c hat hwc; replace hat := Lib.hid hat; clear hwc)
  all_goals go_ret2
  all_goals have e1 := LN.out c hat.out
  all_goals exact ⟨(by rw [e1]; rfl), Below.refl _ _⟩
 ·have LN := Lib.hid (fun c hc => (look_name hS.out s c hc).1 hh)
  go_enter Tryz.func36, Tryz.ntmps36; go_wp2_with (at_lookup; refine wpList_lookup_own_ok_int _ rfl _ _ 98 rfl 9 3 .i64 (Maps.string_keyed Tryz.underlying9) Tryz.underlying98 Tryz.underlying3 (zeroInt _) mb es.length D rfl hD.out _ _ rfl (Go.WideMaps.keyOf_string_mk Tryz.underlying9 hs) ?_; intro c hat hwc; replace hat := Lib.hid hat; clear hwc)
  all_goals go_ret2
  all_goals obtain ⟨e1, e2, _⟩ := LN.out c hat.out
  all_goals exact ⟨(by rw [e1, e2]; rfl), Below.refl _ _⟩
end Go.Proofs.YtlmpoiohbelkjaaGreatDoor.Hi

namespace Go.Proofs.YtlmpoiohbelkjaaGreatDoor.Hi
open Go Go.RowKit Go.Proofs.YtlmpoiohbelkjaaGreatDoor.Nm Go.Proofs.YtlmpoiohbelkjaaGreatDoorW.PrintWords Go.Proofs.YtlmpoiohbelkjaaGreatDoorW.PrintLast Go.Proofs.YtlmpoiohbelkjaaGreatDoorW.PrintMore Go.Proofs.YtlmpoiohbelkjaaGreatDoor.Pt
set_option linter.unusedVariables false
set_option linter.unusedSimpArgs false
set_option maxHeartbeats 2000000
set_option maxRecDepth 100000
def tog (a b : S53) : Bool := a.f4 == b.f4 && ((pkgB a.f0).toList == (pkgB b.f0).toList)
end Go.Proofs.YtlmpoiohbelkjaaGreatDoor.Hi

namespace Go.Proofs.YtlmpoiohbelkjaaGreatDoor.Hi
open Go Go.RowKit Go.Proofs.YtlmpoiohbelkjaaGreatDoorW.PrintWords Go.Proofs.YtlmpoiohbelkjaaGreatDoorW.PrintLast Go.Proofs.YtlmpoiohbelkjaaGreatDoorW.PrintMore Go.Proofs.YtlmpoiohbelkjaaGreatDoor.Pt
set_option linter.unusedVariables false
set_option linter.unusedSimpArgs false
set_option maxHeartbeats 2000000
set_option maxRecDepth 100000
def inM (es : List Ent) (c i : Int) : Bool := inB es c && decide (0 ≤ i ∧ i < (ent es c).c.f5.length)
def methF (es : List Ent) (c i : Int) : S111 × Int := if inM es c i then (rd_T111 (ent es c).c.f5 i, 0) else (z111, 3)
end Go.Proofs.YtlmpoiohbelkjaaGreatDoor.Hi

namespace Go.Proofs.YtlmpoiohbelkjaaGreatDoor.Hi
open Go Go.RowKit Go.Proofs.YtlmpoiohbelkjaaGreatDoorW.PrintWords Go.Proofs.YtlmpoiohbelkjaaGreatDoorW.PrintLast Go.Proofs.YtlmpoiohbelkjaaGreatDoorW.PrintMore Go.Proofs.YtlmpoiohbelkjaaGreatDoor.Pt
set_option linter.unusedVariables false
set_option linter.unusedSimpArgs false
set_option maxHeartbeats 2000000
set_option maxRecDepth 100000
def EntAt (w : World) (es : List Ent) (i : Int) (p : Nat) : Prop := ∃ A2 c2 A5 c5 A8 c8, w.heap[p]? = some (.cells #[.string (ent es i).c.f0, .string (ent es i).c.f1, .slice A2 (ent es i).c.f2.length c2, .int .i64 (ent es i).c.f3, .int .i64 (ent es i).c.f4, .slice A5 (ent es i).c.f5.length c5, .int .i64 (ent es i).above, .int .i64 (ent es i).depth, .slice A8 (ent es i).clo.length c8] 93 (0, 0))
theorem EntAt.below {w w1 : World} {es : List Ent} {i : Int} {p : Nat} (h : EntAt w es i p) (hb : Below w.heap.size w w1) : EntAt w1 es i p := by
 obtain ⟨A2, c2, A5, c5, A8, c8, h⟩ := h
 exact ⟨A2, c2, A5, c5, A8, c8, blk_below h hb⟩
theorem EntAt.up {w : World} {es : List Ent} {i : Int} {p : Nat} (h : EntAt w es i p) : w.cell? ⟨p, 6, none⟩ = some (.int .i64 (ent es i).above) ∧ w.cell? ⟨p, 7, none⟩ = some (.int .i64 (ent es i).depth) := by
 obtain ⟨A2, c2, A5, c5, A8, c8, h⟩ := h
 exact ⟨(blk_cell h 6).trans rfl, (blk_cell h 7).trans rfl⟩
end Go.Proofs.YtlmpoiohbelkjaaGreatDoor.Hi

namespace Go.Proofs.YtlmpoiohbelkjaaGreatDoor.Hi
open Go Go.RowKit Go.Proofs.YtlmpoiohbelkjaaGreatDoor.Nm Go.Proofs.YtlmpoiohbelkjaaGreatDoorW.PrintWords Go.Proofs.YtlmpoiohbelkjaaGreatDoorW.PrintLast Go.Proofs.YtlmpoiohbelkjaaGreatDoorW.PrintMore Go.Proofs.YtlmpoiohbelkjaaGreatDoor.Pt
set_option linter.unusedVariables false
set_option linter.unusedSimpArgs false
set_option maxHeartbeats 2000000
def homeF (es : List Ent) (id : Int) : Int × ByteArray × S53 × Int := if 0 ≤ id ∧ id < es.length then ((es.getD id.toNat zE).c.f4, pkgB (es.getD id.toNat zE).c.f0, (es.getD id.toNat zE).c, 0) else (0, ⟨#[]⟩, z53, 3)
end Go.Proofs.YtlmpoiohbelkjaaGreatDoor.Hi

namespace Go.Proofs.YtlmpoiohbelkjaaGreatDoor.Pt
open Go Go.RowKit Go.Proofs.YtlmpoiohbelkjaaGreatDoor.Nm Go.Proofs.YtlmpoiohbelkjaaGreatDoor.Hi Go.Proofs.YtlmpoiohbelkjaaGreatDoorW.PrintWords Go.Proofs.YtlmpoiohbelkjaaGreatDoorW.PrintLast Go.Proofs.YtlmpoiohbelkjaaGreatDoorW.PrintMore
set_option linter.unusedVariables false
set_option linter.unusedSimpArgs false
def hier_World_Class.f (a0 : List Hi.Ent) (a1 : Int) : Option (ByteArray × ByteArray × (List ByteArray) × Int × Int × (List (S111)) × Int) :=
 some ((classF a0 a1).1.f0, (classF a0 a1).1.f1, (classF a0 a1).1.f2, (classF a0 a1).1.f3, (classF a0 a1).1.f4, (classF a0 a1).1.f5, (classF a0 a1).2)
def access_homeOf.f (a0 : List Hi.Ent) (a1 : Int) : Option (Int × ByteArray × ByteArray × ByteArray × (List ByteArray) × Int × Int × (List (S111)) × Int) :=
 some ((homeF a0 a1).1, (homeF a0 a1).2.1, (homeF a0 a1).2.2.1.f0, (homeF a0 a1).2.2.1.f1, (homeF a0 a1).2.2.1.f2, (homeF a0 a1).2.2.1.f3, (homeF a0 a1).2.2.1.f4, (homeF a0 a1).2.2.1.f5, (homeF a0 a1).2.2.2)
def hier_World_ByName.f (a0 : List Hi.Ent) (a1 : ByteArray) : Option (Int × Int) := if a1.size ≤ 9223372036854775807 then some (nameF a0 a1) else none
theorem hier_World_ByName.calls (G_ : Nat) (a0 : List Hi.Ent) (a1 : ByteArray) (r1 : Int) (r2 : Int) (w : World) (hq0 : WOK w G_ a0) (h : hier_World_ByName.f a0 a1 = some (r1, r2)) :
  Calls Tryz.prog 36 #[.pointer (some ⟨G_, 0, none⟩), .string a1] w fun e w' => e = .returned (.tuple #[.int .i64 r1, .int .i64 r2]) ∧ Below w.heap.size w w' := by
 unfold hier_World_ByName.f at h; obtain ⟨hs, h⟩ := if_some h; have h := Option.some.inj h
 obtain rfl : (nameF a0 a1).1 = r1 := by rw [h]
 obtain rfl : (nameF a0 a1).2 = r2 := by rw [h]
 exact byName_any w G_ a0 hq0 a1 hs
def hier_World_IsIface.f (a0 : List Hi.Ent) (a1 : Int) : Option Bool := some (inB a0 a1 && isI (ent a0 a1).c)
def hier_World_SamePackage.f (a0 : List Hi.Ent) (a1 : Int) (a2 : Int) : Option Bool := some (inB a0 a1 && inB a0 a2 && tog (ent a0 a1).c (ent a0 a2).c)
def hier_World_Extends.f (a0 : List Hi.Ent) (a1 : Int) (a2 : Int) : Option Bool := some (extF a0 a1 a2)
def hier_World_Method.f (a0 : List Hi.Ent) (a1_0 : Int) (a1_1 : Int) : Option (ByteArray × ByteArray × Int × Int × Int × (List (S116)) × Int) :=
 some ((methF a0 a1_0 a1_1).1.f0, (methF a0 a1_0 a1_1).1.f1, (methF a0 a1_0 a1_1).1.f2, (methF a0 a1_0 a1_1).1.f3, (methF a0 a1_0 a1_1).1.f4, (methF a0 a1_0 a1_1).1.f5, (methF a0 a1_0 a1_1).2)
def names_Package.f (a0 : ByteArray) : Option ByteArray := if a0.size < 4611686018427387904 then some (pkgB a0) else none
def access_Package_nil.f (a1 : Int) : Option (Int × ByteArray × Int) := some (0, ⟨#[]⟩, 2)
def access_ClassOpen_nil.f (a1 : Int) (a2 : Int) : Option (Bool × Int) := some (false, 2)
def access_TypeOpen_nil.f (a1 : Int) (a2_0 : Int) (a2_1 : ByteArray) : Option (Bool × Int) := some (false, 2)
def access_MethodOpen_nil.f (a1 : Int) (a2_0 : Int) (a2_1 : Int) (a3 : Int) : Option (Bool × Int) := some (false, 2)
end Go.Proofs.YtlmpoiohbelkjaaGreatDoor.Pt

namespace Go.Proofs.YtlmpoiohbelkjaaGreatDoor.Hi
open Go Go.RowKit Go.Proofs.YtlmpoiohbelkjaaGreatDoorW.PrintWords Go.Proofs.YtlmpoiohbelkjaaGreatDoorW.PrintLast Go.Proofs.YtlmpoiohbelkjaaGreatDoorW.PrintMore Go.Proofs.YtlmpoiohbelkjaaGreatDoor.Pt
set_option linter.unusedVariables false
set_option linter.unusedSimpArgs false
set_option maxHeartbeats 2000000
set_option maxRecDepth 100000
theorem R_block {α : Type} (d : Kd α) (e : Nat) {W : World} {base g : Nat} {ok : Nat → Prop} {xs : List α} {inner : List Value} (h : W.heap[g]? = some (.cells inner.toArray e (0, 0))) (hb : base ≤ g) (hok : ok g) (hm : xs.length ≤ maxLen) (hr : Reps (d.M W base (fun k => ok k ∧ some k ≠ some g)) d.sz xs inner) :
  d.R e W base ok (.slice (some ⟨g, 0, none⟩) xs.length xs.length) xs :=
 ⟨fun k hk => by
  have : g = k := by simpa [Value.ownBlock] using hk
  exact this ▸ hok, inner, ⟨hr.1, .inr ⟨g, xs.length, inner.toArray, rfl, hb, h, Nat.le_refl _, hm, by simpa using hr.1, by simp [← hr.1]⟩⟩, hr⟩
def inst (op n : Int) : S116 := ⟨op, n, ⟨#[]⟩, ⟨false, ⟨#[]⟩, ⟨#[]⟩, ⟨#[]⟩⟩⟩
def instC (op n : Int) : List Value := [.int .i64 op, .int .i64 n, .string ⟨#[]⟩, .bool false, .string ⟨#[]⟩, .string ⟨#[]⟩, .string ⟨#[]⟩]
theorem reps_inst (W : World) (base : Nat) (ok : Nat → Prop) (op n : Int) : Reps (k116.M W base ok) k116.sz [inst op n] (instC op n) :=
 (Reps.none _ _).snoc (k116_mkM W base ok (inst op n)) rfl
theorem reps_inst2 (W : World) (base : Nat) (ok : Nat → Prop) (op n op' n' : Int) : Reps (k116.M W base ok) k116.sz [inst op n, inst op' n'] (instC op n ++ instC op' n') :=
 (reps_inst W base ok op n).snoc (k116_mkM W base ok (inst op' n')) rfl
def sObject : ByteArray := ⟨#[79, 98, 106, 101, 99, 116]⟩
def sInit : ByteArray := ⟨#[60, 105, 110, 105, 116, 62]⟩
def sV : ByteArray := ⟨#[40, 41, 86]⟩
def sId : ByteArray := ⟨#[105, 100]⟩
def sI : ByteArray := ⟨#[40, 41, 73]⟩
def sKin : ByteArray := ⟨#[107, 105, 110]⟩
def sLO : ByteArray := ⟨#[40, 41, 76, 79, 98, 106, 101, 99, 116, 59]⟩
def objM : List S111 := [⟨sInit, sV, 1, 1, 0, [inst 38 0]⟩, ⟨sId, sI, 1, 1, 1, [inst 1 7, inst 36 0]⟩, ⟨sKin, sLO, 4, 1, 1, [inst 4 0, inst 37 0]⟩]
def objC : S53 := ⟨sObject, ⟨#[]⟩, [], 33, 0, objM⟩
def methC (g : Nat) : List Value := (([.string sInit, .string sV, .int .i64 1, .int .i64 1, .int .i64 0, .slice (some ⟨g + 1, 0, none⟩) 1 1] : List Value) ++ [.string sId, .string sI, .int .i64 1, .int .i64 1, .int .i64 1, .slice (some ⟨g + 1 + 1, 0, none⟩) 2 2]) ++ [.string sKin, .string sLO, .int .i64 4, .int .i64 1, .int .i64 1, .slice (some ⟨g + 1 + 1 + 1, 0, none⟩) 2 2]
theorem five_new (w : World) (o0 o1 o2 o3 o4 : Obj) : (((((w.alloc o0).alloc o1).alloc o2).alloc o3).alloc o4).heap[w.heap.size]? = some o0 ∧ (((((w.alloc o0).alloc o1).alloc o2).alloc o3).alloc o4).heap[w.heap.size + 1]? = some o1 ∧ (((((w.alloc o0).alloc o1).alloc o2).alloc o3).alloc o4).heap[w.heap.size + 1 + 1]? = some o2 ∧
  (((((w.alloc o0).alloc o1).alloc o2).alloc o3).alloc o4).heap[w.heap.size + 1 + 1 + 1]? = some o3 ∧ (((((w.alloc o0).alloc o1).alloc o2).alloc o3).alloc o4).heap[w.heap.size + 1 + 1 + 1 + 1]? = some o4 ∧ Below w.heap.size w (((((w.alloc o0).alloc o1).alloc o2).alloc o3).alloc o4) := by
 have e0 : (w.alloc o0).heap.size = w.heap.size + 1 := by simp
 have e1 : ((w.alloc o0).alloc o1).heap.size = w.heap.size + 1 + 1 := by simp
 have e2 : (((w.alloc o0).alloc o1).alloc o2).heap.size = w.heap.size + 1 + 1 + 1 := by simp
 have e3 : ((((w.alloc o0).alloc o1).alloc o2).alloc o3).heap.size = w.heap.size + 1 + 1 + 1 + 1 := by simp
 refine ⟨blk_alloc (blk_alloc (blk_alloc (blk_alloc (blk_new w o0) o1) o2) o3) o4, ?_, ?_, ?_, ?_, ?_⟩
 ·have := blk_alloc (blk_alloc (blk_alloc (blk_new (w.alloc o0) o1) o2) o3) o4
  rwa [e0] at this
 ·have := blk_alloc (blk_alloc (blk_new ((w.alloc o0).alloc o1) o2) o3) o4
  rwa [e1] at this
 ·have := blk_alloc (blk_new (((w.alloc o0).alloc o1).alloc o2) o3) o4
  rwa [e2] at this
 ·have := blk_new ((((w.alloc o0).alloc o1).alloc o2).alloc o3) o4
  rwa [e3] at this
 ·exact (((((Below.refl _ _).alloc (Nat.le_refl _) _).alloc (by omega) _).alloc (by omega) _).alloc (by omega) _).alloc (by omega) _
theorem objR {W : World} {base g : Nat} (hb : base ≤ g)
  (h1 : W.heap[g + 1]? = some (.cells (instC 38 0).toArray 116 (0, 0))) (h2 : W.heap[g + 1 + 1]? = some (.cells (instC 1 7 ++ instC 36 0).toArray 116 (0, 0))) (h3 : W.heap[g + 1 + 1 + 1]? = some (.cells (instC 4 0 ++ instC 37 0).toArray 116 (0, 0)))
  (h4 : W.heap[g + 1 + 1 + 1 + 1]? = some (.cells (methC g).toArray 111 (0, 0))) :
  Kd.R k111 111 W base (fun _ => True) (.slice (some ⟨g + 1 + 1 + 1 + 1, 0, none⟩) 3 3) objM := by
 have r1 := R_block k116 116 (base := base) (ok := fun k => True ∧ some k ≠ some (g + 1 + 1 + 1 + 1)) h1 (by omega) ⟨trivial, by simp⟩ (by decide) (reps_inst W base _ 38 0); have r2 := R_block k116 116 (base := base) (ok := fun k => True ∧ some k ≠ some (g + 1 + 1 + 1 + 1)) h2 (by omega) ⟨trivial, by simp⟩ (by decide) (reps_inst2 W base _ 1 7 36 0); have r3 := R_block k116 116 (base := base) (ok := fun k => True ∧ some k ≠ some (g + 1 + 1 + 1 + 1)) h3 (by omega) ⟨trivial, by simp⟩ (by decide) (reps_inst2 W base _ 4 0 37 0); refine R_block k111 111 (xs := objM) h4 (by omega) trivial (by decide) ?_
 exact (((Reps.none _ _).snoc (k111_mkM W base _ ⟨sInit, sV, 1, 1, 0, [inst 38 0]⟩ r1) rfl).snoc (k111_mkM W base _ ⟨sId, sI, 1, 1, 1, [inst 1 7, inst 36 0]⟩ r2) rfl).snoc (k111_mkM W base _ ⟨sKin, sLO, 4, 1, 1, [inst 4 0, inst 37 0]⟩ r3) rfl
theorem object_any (w : World) : Calls Tryz.prog 39 #[] w fun e w' => ∃ v5, e = .returned (.agg #[.string objC.f0, .string objC.f1, .slice none 0 0, .int .i64 objC.f3, .int .i64 objC.f4, v5]) ∧ Kd.R k111 111 w' w.heap.size (fun _ => True) v5 objC.f5 ∧ Below w.heap.size w w' := by
 go_enter Tryz.func39, Tryz.ntmps39; go_wp2; refine bodyPost_ret (results_cell_row rfl _ _ w.heap.size 53 _ (0, 0) _ rfl (five_new _ _ _ _ _ _).1 Tryz.underlying53 rfl (by kernel_rfl)) rfl ?_
 have F := five_new w (.cells #[.string sObject, .string ⟨#[]⟩, .slice none 0 0, .int .i64 33, .int .i64 0, .slice (some ⟨w.heap.size + 1 + 1 + 1 + 1, 0, none⟩) 3 3] 53) (.cells (instC 38 0).toArray 116) (.cells (instC 1 7 ++ instC 36 0).toArray 116) (.cells (instC 4 0 ++ instC 37 0).toArray 116)
  (.cells (methC w.heap.size).toArray 111)
 exact ⟨_, rfl, objR (Nat.le_refl _) F.2.1 F.2.2.1 F.2.2.2.1 F.2.2.2.2.1, F.2.2.2.2.2⟩
end Go.Proofs.YtlmpoiohbelkjaaGreatDoor.Hi

namespace Go.Proofs.YtlmpoiohbelkjaaGreatDoor.Hi
open Go Go.RowKit Go.Proofs.YtlmpoiohbelkjaaGreatDoorW.PrintWords Go.Proofs.YtlmpoiohbelkjaaGreatDoorW.PrintLast Go.Proofs.YtlmpoiohbelkjaaGreatDoorW.PrintMore Go.Proofs.YtlmpoiohbelkjaaGreatDoor.Pt
set_option linter.unusedVariables false
set_option linter.unusedSimpArgs false
set_option maxHeartbeats 2000000
set_option maxRecDepth 100000
def sCloneable : ByteArray := ⟨#[67, 108, 111, 110, 101, 97, 98, 108, 101]⟩
def sSerializable : ByteArray := ⟨#[83, 101, 114, 105, 97, 108, 105, 122, 97, 98, 108, 101]⟩
def ifaceC (s : ByteArray) : S53 := ⟨s, sObject, [], 1537, 0, []⟩
def newE : List Ent := [⟨objC, -1, 0, []⟩, ⟨ifaceC sCloneable, 0, 1, []⟩, ⟨ifaceC sSerializable, 0, 1, []⟩]
theorem WIn.start (w : World) : WIn ((w.alloc (.map #[] 0)).alloc (.cells #[.slice none 0 0, .map (some w.heap.size)] 101)) w.heap.size (w.heap.size + 1) (.slice none 0 0) w.heap.size [] [] := by
 have e0 : (w.alloc (.map #[] 0)).heap.size = w.heap.size + 1 := by simp
 refine ⟨Nat.le_succ _, ?_, Kd.R_nil _ _ _ _ _, rfl, fun j x p hx => by simp at hx, Nat.le_refl _, .map [], ?_, MapSays.nil⟩
 ·have := blk_new (w.alloc (.map #[] 0)) (.cells #[.slice none 0 0, .map (some w.heap.size)] 101)
  rwa [e0] at this
 ·exact (World.ownsMap_made w _ _ _).alloc _
theorem ne_size {a b : ByteArray} (h : a.size ≠ b.size) : a ≠ b := fun e => h (by rw [e])
theorem notIn1 : sCloneable ∉ ([putE [] objC (-1) []] : List Ent).map (·.c.f0) := by
 intro h
 exact ne_size (by decide) (List.mem_singleton.1 h)
theorem notIn2 : sSerializable ∉ ([putE [] objC (-1) [], putE [putE [] objC (-1) []] (ifaceC sCloneable) 0 []] : List Ent).map (·.c.f0) := by
 intro h
 rcases List.mem_cons.1 h with h | h
 ·exact ne_size (by decide) h
 ·exact ne_size (by decide) (List.mem_singleton.1 h)
theorem new_any (w : World) : Calls Tryz.prog 29 #[] w fun e w' => ∃ g v mb ps, e = .returned (.pointer (some ⟨g, 0, none⟩)) ∧ WIn w' w.heap.size g v mb ps newE ∧ Below w.heap.size w w' := by
 have hmm := @run_makeMap Tryz.prog; have S0 := Lib.hid (WIn.start w); have B0 : Hid (Below w.heap.size w ((w.alloc (.map #[] 0)).alloc (.cells #[.slice none 0 0, .map (some w.heap.size)] 101))) := Lib.hid (((Below.refl _ _).alloc (Nat.le_refl _) _).alloc (by simp) _); go_enter Tryz.func29, Tryz.ntmps29; go_wp2_with fail; refine (object_any _).mono ?_; rintro e w1 ⟨v5, rfl, R5, hb1⟩; obtain ⟨A5, c5, rfl⟩ := Kd.R_slice R5; have S1 := Lib.hid (S0.out.below hb1); have B1 := Lib.hid (B0.out.trans (hb1.mono B0.out.size)); have P1 := Lib.hid (put_any w1 w.heap.size (w.heap.size + 1) _ w.heap.size [] [] S1.out B1.out.size objC.f0 objC.f1 (.slice none 0 0) (.slice A5 objC.f5.length c5) [] objC.f3 objC.f4 objC.f5 (Kd.R_nil _ _ _ _ _) (Kd.R_lower R5 B0.out.size) (-1) (.inl rfl) none 0 [] (Kd.C_nil _ _) (fun i hi => by cases hi) (by decide) (fun x hx => by cases hx) (by decide) (by simp) (by decide)); clear S0 B0 R5 hb1; go_wp2_with fail; refine P1.out.mono ?_; rintro e w2 ⟨rfl, v2, p, S2, hb2, hk2⟩; have RB := Lib.hid (blk_new w2 (.cells #[.string sCloneable, .string sSerializable] 9)); have AB := (Below.refl w2.heap.size w2).alloc (Nat.le_refl _) (.cells #[.string sCloneable, .string sSerializable] 9); have S3 := Lib.hid (S2.below AB); have B2 := B1.out.trans hb2; have B3 := Lib.hid (B2.trans (AB.mono B2.size)); clear P1 S1 B1 S2 hb2 hk2 AB B2; go_wp2_with fail; change Code.wp _ _ _ _ (w2.alloc (.cells #[.string sCloneable, .string sSerializable] 9)); generalize w2.alloc (.cells #[.string sCloneable, .string sSerializable] 9) = w3 at *; have q0 : w3.cell? ⟨w2.heap.size, 0, none⟩ = some (.string sCloneable) := (blk_cell RB.out 0).trans rfl
 have P2 := Lib.hid (put_any w3 w.heap.size (w.heap.size + 1) _ w.heap.size _ _ S3.out B3.out.size sCloneable sObject (.slice none 0 0) (.slice none 0 0) [] 1537 0 [] (Kd.R_nil _ _ _ _ _) (Kd.R_nil _ _ _ _ _) 0 (.inr ⟨by omega, by decide⟩) none 0 [] (Kd.C_nil _ _) (fun i hi => by cases hi) (by decide) (fun x hx => by
  rw [List.mem_singleton.1 hx]
  exact ⟨Rng.nil _, by decide, by decide⟩) (by decide) notIn1 (by decide))
 clear S3; refine wp_loop_rounds 3 ?_; rw [rounds_succ]; go_wp2_with fail; refine P2.out.mono ?_; rintro e w4 ⟨rfl, v4, p4, S4, hb4, hk4⟩; have B4 := Lib.hid (B3.out.trans hb4); have RB4 := Lib.hid (hk4 _ _ _ RB.out (by decide) (by decide)); have q1 : w4.cell? ⟨w2.heap.size, 1, none⟩ = some (.string sSerializable) := (blk_cell RB4.out 1).trans rfl
 have P3 := Lib.hid (put_any w4 w.heap.size (w.heap.size + 1) _ w.heap.size _ _ S4 B4.out.size sSerializable sObject (.slice none 0 0) (.slice none 0 0) [] 1537 0 [] (Kd.R_nil _ _ _ _ _) (Kd.R_nil _ _ _ _ _) 0 (.inr ⟨by omega, by decide⟩) none 0 [] (Kd.C_nil _ _) (fun i hi => by cases hi) (by decide) (fun x hx => by
  rcases List.mem_cons.1 hx with rfl | hx
  ·exact ⟨Rng.nil _, by decide, by decide⟩
  ·rw [List.mem_singleton.1 hx]
   exact ⟨Rng.nil _, by decide, by decide⟩) (by decide) notIn2 (by decide))
 clear S4 hb4 hk4 P2 B3 RB RB4 q0; go_wp2_with fail; rw [rounds_succ]; go_wp2_with fail; refine P3.out.mono ?_; rintro e w5 ⟨rfl, v5, p5, S5, hb5, hk5⟩; have B5 := Lib.hid (B4.out.trans hb5); replace S5 := Lib.hid S5; clear hb5 hk5 P3 B4 q1; go_wp2_with fail; rw [rounds_succ]; go_wp2; go_ret
 exact ⟨_, _, _, _, rfl, S5.out, B5.out⟩
end Go.Proofs.YtlmpoiohbelkjaaGreatDoor.Hi

namespace Go.Proofs.YtlmpoiohbelkjaaGreatDoor.Pt
open Go Go.RowKit Go.Proofs.YtlmpoiohbelkjaaGreatDoor.Nm Go.Proofs.YtlmpoiohbelkjaaGreatDoor.Hi Go.Proofs.YtlmpoiohbelkjaaGreatDoorW.PrintWords Go.Proofs.YtlmpoiohbelkjaaGreatDoorW.PrintLast Go.Proofs.YtlmpoiohbelkjaaGreatDoorW.PrintMore
set_option linter.unusedVariables false
set_option linter.unusedSimpArgs false
theorem fine_new : ∀ x ∈ newE, Fine x := by
 intro x hx; simp only [newE, List.mem_cons, List.not_mem_nil, or_false] at hx
 rcases hx with rfl | rfl | rfl
 ·exact ⟨⟨by decide, by decide, by decide⟩, by decide, by decide⟩
 ·exact ⟨⟨by decide, by decide, by decide⟩, by decide, by decide⟩
 ·exact ⟨⟨by decide, by decide, by decide⟩, by decide, by decide⟩
theorem tree_new : Tree newE := by
 intro i x hx
 match i, hx with
 | 0, hx => simp [newE] at hx; subst hx; exact .inl ⟨rfl, rfl⟩
 | 1, hx => simp [newE] at hx; subst hx; exact .inr ⟨by decide, by decide, by decide⟩
 | 2, hx => simp [newE] at hx; subst hx; exact .inr ⟨by decide, by decide, by decide⟩
 | i + 3, hx => simp [newE] at hx
theorem _root_.Go.Proofs.YtlmpoiohbelkjaaGreatDoor.Pt.WOK.at_ {w w' : World} {m g : Nat} {es : List Ent} (hq : w.drewN m = w') (h : WOK w g es) : WOK w' g es := hq ▸ h.drewN m
theorem wok_new {w : World} {base g : Nat} {v : Value} {mb : Nat} {ps : List Nat} (h : WIn w base g v mb ps newE) : WOK w g newE := ⟨⟨_, _, _, _, h⟩, fine_new, tree_new, by decide⟩
end Go.Proofs.YtlmpoiohbelkjaaGreatDoor.Pt

namespace Go.Proofs.YtlmpoiohbelkjaaGreatDoor.Pt
open Go Go.RowKit Go.Proofs.YtlmpoiohbelkjaaGreatDoor.Nm Go.Proofs.YtlmpoiohbelkjaaGreatDoor.Ty Go.Proofs.YtlmpoiohbelkjaaGreatDoor.Hi Go.Proofs.YtlmpoiohbelkjaaGreatDoorW.PrintWords Go.Proofs.YtlmpoiohbelkjaaGreatDoorW.PrintLast Go.Proofs.YtlmpoiohbelkjaaGreatDoorW.PrintMore
set_option linter.unusedVariables false
set_option linter.unusedSimpArgs false
set_option maxRecDepth 100000
theorem hp_New_nil (w : World) : Calls Tryz.prog 5 #[.pointer none] w fun e w' => e = .returned (.tuple #[.pointer none, .int .i64 2]) ∧ w' = w := by
 go_enter Tryz.func5, Tryz.ntmps5; go_wp2; go_ret2
 exact ⟨rfl, rfl⟩
theorem hp_Len_nil (w : World) : Calls Tryz.prog 13 #[.pointer none] w fun e w' => e = .returned (.int .i64 0) ∧ w' = w := by
 go_enter Tryz.func13, Tryz.ntmps13; go_wp2; go_ret
 exact ⟨rfl, rfl⟩
theorem hp_Words_nil (w : World) : Calls Tryz.prog 14 #[.pointer none] w fun e w' => e = .returned (.int .i64 0) ∧ w' = w := by
 go_enter Tryz.func14, Tryz.ntmps14; go_wp2; go_ret
 exact ⟨rfl, rfl⟩
theorem hp_Object_nil (i : Int) (w : World) : Calls Tryz.prog 6 #[.pointer none, .int .i64 i] w fun e w' => e = .returned (.tuple #[.int .i64 0, .int .i64 2]) ∧ w' = w := by
 go_enter Tryz.func6, Tryz.ntmps6; go_wp2; go_ret2
 exact ⟨rfl, rfl⟩
theorem hp_Array_nil (d : Int) (s : ByteArray) (i : Int) (w : World) : Calls Tryz.prog 7 #[.pointer none, .agg #[.int .i64 d, .string s], .int .i64 i] w fun e w' => e = .returned (.tuple #[.int .i64 0, .int .i64 2]) ∧ Below w.heap.size w w' := by
 go_enter Tryz.func7, Tryz.ntmps7; go_wp2; go_ret2
 exact ⟨rfl, by
  repeat' (first | exact Below.refl _ _ | apply below_alloc)⟩
theorem hp_Multi_nil (d : Int) (s : ByteArray) (v : Value) (w : World) : Calls Tryz.prog 8 #[.pointer none, .agg #[.int .i64 d, .string s], v] w fun e w' => e = .returned (.tuple #[.int .i64 0, .int .i64 2]) ∧ Below w.heap.size w w' := by
 go_enter Tryz.func8, Tryz.ntmps8; go_wp2; go_ret2
 exact ⟨rfl, by
  repeat' (first | exact Below.refl _ _ | apply below_alloc)⟩
theorem hp_at_nil (i : Int) (w : World) : Calls Tryz.prog 24 #[.pointer none, .int .i64 i] w fun e w' => e = .returned (.tuple #[.pointer none, .int .i64 2]) ∧ w' = w := by
 go_enter Tryz.func24, Tryz.ntmps24; go_wp2; go_ret2
 exact ⟨rfl, rfl⟩
theorem hp_array_nil (i : Int) (w : World) : Calls Tryz.prog 25 #[.pointer none, .int .i64 i] w fun e w' => e = .returned (.tuple #[.pointer none, .int .i64 2]) ∧ w' = w := by
 have C := Lib.hid (hp_at_nil i w); go_enter Tryz.func25, Tryz.ntmps25; go_wp2_with (go_at_call 24; refine C.out.mono ?_; rintro e w1 ⟨rfl, rfl⟩); go_ret2
 exact ⟨rfl, rfl⟩
theorem hp_Length_nil (i : Int) (w : World) : Calls Tryz.prog 10 #[.pointer none, .int .i64 i] w fun e w' => e = .returned (.tuple #[.int .i64 0, .int .i64 2]) ∧ w' = w := by
 have C := Lib.hid (hp_array_nil i w); go_enter Tryz.func10, Tryz.ntmps10; go_wp2_with (go_at_call 25; refine C.out.mono ?_; rintro e w1 ⟨rfl, rfl⟩); go_ret2
 exact ⟨rfl, rfl⟩
theorem hp_TypeOf_nil (i : Int) (w : World) : Calls Tryz.prog 9 #[.pointer none, .int .i64 i] w fun e w' => e = .returned (.tuple #[.agg #[.int .i64 0, .string ⟨#[]⟩], .int .i64 2]) ∧ Below w.heap.size w w' := by
 have C := Lib.hid (hp_at_nil i (w.alloc (.cells #[.int .i64 0, .string ⟨#[]⟩] 31))); have BB := Lib.hid ((Below.refl w.heap.size w).alloc (Nat.le_refl _) (.cells #[.int .i64 0, .string ⟨#[]⟩] 31)); have B0 := Lib.hid (blk_new w (.cells #[.int .i64 0, .string ⟨#[]⟩] 31)); have f0 := blk_frozen B0.out 0; have f1 := blk_frozen B0.out 1; have z0 : (w.alloc (.cells #[.int .i64 0, .string ⟨#[]⟩] 31)).cell? ⟨w.heap.size, 0, none⟩ = some (.int .i64 0) := (blk_cell B0.out 0).trans rfl; have z1 : (w.alloc (.cells #[.int .i64 0, .string ⟨#[]⟩] 31)).cell? ⟨w.heap.size, 1, none⟩ = some (.string ⟨#[]⟩) := (blk_cell B0.out 1).trans rfl; go_enter Tryz.func9, Tryz.ntmps9; go_wp2_with (go_at_call 24; refine C.out.mono ?_; rintro e w1 ⟨rfl, rfl⟩)
 exact bodyPost_ret (results_ct rfl _ _ w.heap.size 31 _ (0, 0) _ rfl B0.out Tryz.underlying31 rfl (by kernel_rfl)) rfl ⟨rfl, BB.out⟩
theorem hp_Get_nil (i j : Int) (w : World) : Calls Tryz.prog 11 #[.pointer none, .int .i64 i, .int .i64 j] w fun e w' => e = .returned (.tuple #[.agg #[.bool false, .int .i64 0], .int .i64 2]) ∧ Below w.heap.size w w' := by
 have C := Lib.hid (hp_array_nil i (w.alloc (.cells #[.bool false, .int .i64 0] 37))); have BB := Lib.hid ((Below.refl w.heap.size w).alloc (Nat.le_refl _) (.cells #[.bool false, .int .i64 0] 37)); have B0 := Lib.hid (blk_new w (.cells #[.bool false, .int .i64 0] 37)); have f0 := blk_frozen B0.out 0; have f1 := blk_frozen B0.out 1; have z0 : (w.alloc (.cells #[.bool false, .int .i64 0] 37)).cell? ⟨w.heap.size, 0, none⟩ = some (.bool false) := (blk_cell B0.out 0).trans rfl; have z1 : (w.alloc (.cells #[.bool false, .int .i64 0] 37)).cell? ⟨w.heap.size, 1, none⟩ = some (.int .i64 0) := (blk_cell B0.out 1).trans rfl; go_enter Tryz.func11, Tryz.ntmps11; go_wp2_with (go_at_call 25; refine C.out.mono ?_; rintro e w1 ⟨rfl, rfl⟩)
 exact bodyPost_ret (results_ct rfl _ _ w.heap.size 37 _ (0, 0) _ rfl B0.out Tryz.underlying37 rfl (by kernel_rfl)) rfl ⟨rfl, BB.out⟩
theorem hp_Set_nil (i j : Int) (b : Bool) (k : Int) (w : World) : Calls Tryz.prog 12 #[.pointer none, .int .i64 i, .int .i64 j, .agg #[.bool b, .int .i64 k]] w fun e w' => e = .returned (.int .i64 2) ∧ Below w.heap.size w w' := by
 have C := Lib.hid (hp_array_nil i (w.alloc (.cells #[.bool b, .int .i64 k] 37))); go_enter Tryz.func12, Tryz.ntmps12; go_wp2_with (go_at_call 25; refine C.out.mono ?_; rintro e w1 ⟨rfl, rfl⟩); go_ret
 exact ⟨rfl, below_alloc (Below.refl _ _) _⟩
end Go.Proofs.YtlmpoiohbelkjaaGreatDoor.Pt

namespace Go.Proofs.YtlmpoiohbelkjaaGreatDoor.Pt
open Go Go.RowKit Go.Proofs.YtlmpoiohbelkjaaGreatDoor.Nm Go.Proofs.YtlmpoiohbelkjaaGreatDoor.Ty Go.Proofs.YtlmpoiohbelkjaaGreatDoor.Hi Go.Proofs.YtlmpoiohbelkjaaGreatDoorW.PrintWords Go.Proofs.YtlmpoiohbelkjaaGreatDoorW.PrintLast Go.Proofs.YtlmpoiohbelkjaaGreatDoorW.PrintMore
set_option linter.unusedVariables false
set_option linter.unusedSimpArgs false
set_option maxRecDepth 100000
theorem link_New_any (g : Nat) (w : World) : Calls Tryz.prog 31 #[.pointer (some ⟨g, 0, none⟩)] w fun e w' => ∃ gl x1 x2 x3 x4, e = .returned (.tuple #[.pointer (some ⟨gl, 0, none⟩), .int .i64 0]) ∧ w'.heap[gl]? = some (.cells #[.pointer (some ⟨g, 0, none⟩), x1, x2, x3, x4] 88 (0, 0)) ∧ w.heap.size ≤ gl ∧ Below w.heap.size w w' := by
 have hmm := @run_makeMap Tryz.prog; go_enter Tryz.func31, Tryz.ntmps31; go_wp2; go_ret2; have hz : (w.alloc (.map #[] 0)).heap.size = w.heap.size + 1 := World.size_alloc _ _; refine ⟨w.heap.size + 1, _, _, _, _, rfl, by rw [← hz]; exact heap_alloc_new _ _, by omega, ?_⟩
 repeat' (first | exact Below.refl _ _ | apply below_alloc)
theorem hp_New_any (g gl : Nat) (x1 x2 x3 x4 : Value) (w : World) (h : w.heap[gl]? = some (.cells #[.pointer (some ⟨g, 0, none⟩), x1, x2, x3, x4] 88 (0, 0))) :
  Calls Tryz.prog 5 #[.pointer (some ⟨gl, 0, none⟩)] w fun e w' => e = .returned (.tuple #[.pointer (some ⟨w.heap.size, 0, none⟩), .int .i64 0]) ∧ w' = w.alloc (.cells #[.pointer (some ⟨gl, 0, none⟩), .pointer (some ⟨g, 0, none⟩), .slice none 0 0, .int .i64 0] 49) := by
 have C : Hid (Calls Tryz.prog 16 #[.pointer (some ⟨gl, 0, none⟩)] w fun e w' => e = .returned (.pointer (some ⟨g, 0, none⟩)) ∧ w' = w) := Lib.hid (by
  have z0 : w.cell? ⟨gl, 0, none⟩ = some (.pointer (some ⟨g, 0, none⟩)) := (blk_cell h 0).trans rfl; go_enter Tryz.func16, Tryz.ntmps16; go_wp2; go_ret
  exact ⟨rfl, rfl⟩)
 go_enter Tryz.func5, Tryz.ntmps5; go_wp2_with (go_at_call 16; refine C.out.mono ?_; rintro e w1 ⟨rfl, rfl⟩); go_ret2
 exact ⟨rfl, rfl⟩
theorem opened_any (w : World) : Calls Tryz.prog 15 #[.slice none 0 0] w fun e w' => ∃ g gl gh x1 x2 x3 x4, e = .returned (.tuple #[.pointer (some ⟨g, 0, none⟩), .pointer (some ⟨gh, 0, none⟩)]) ∧ WOK w' g newE ∧ w'.heap[gl]? = some (.cells #[.pointer (some ⟨g, 0, none⟩), x1, x2, x3, x4] 88 (0, 0)) ∧
  w'.heap[gh]? = some (.cells #[.pointer (some ⟨gl, 0, none⟩), .pointer (some ⟨g, 0, none⟩), .slice none 0 0, .int .i64 0] 49 (0, 0)) ∧ w.heap.size ≤ gh ∧ Below w.heap.size w w' := by
 have C1 := Lib.hid (new_any w); go_enter Tryz.func15, Tryz.ntmps15
 go_upto_region 2 with (go_at_call 29; refine C1.out.mono ?_; rintro e w1 ⟨g, v, mb, ps, rfl, hW, hb1⟩)
 have hq := Lib.hid (wok_new hW); replace hb1 := Lib.hid hb1; clear hW C1; go_wp2
 go_loopw [5] (fun i wr => i = .int .i64 0 ∧ wr = w1) (fun i _ => 0)
 case atStart => exact ⟨rfl, rfl⟩
 case round =>
  obtain ⟨rfl, rfl⟩ := hrel; have C2 := Lib.hid (link_New_any g wr)
  go_upto_region 7 with (go_at_call 31; refine C2.out.mono ?_; rintro e w2 ⟨gl, x1, x2, x3, x4, rfl, hl, hgl, hb2⟩)
  clear C2; replace hl := Lib.hid hl; have C3 := Lib.hid (hp_New_any g gl x1 x2 x3 x4 w2 hl.out); have hs2 := hb2.size; replace hb2 := Lib.hid hb2; go_wp2_with (go_at_call 5; refine C3.out.mono ?_; rintro e w3 ⟨rfl, rfl⟩); go_ret2; have hB := hb1.out.trans (hb2.out.mono hb1.out.size); refine ⟨g, gl, w2.heap.size, x1, x2, x3, x4, rfl, (hq.out.below hb2.out).below (below_alloc (Below.refl _ _) _), blk_below hl.out (below_alloc (Below.refl _ _) _), heap_alloc_new _ _, Nat.le_trans hb1.out.size hs2, below_alloc hB _⟩
end Go.Proofs.YtlmpoiohbelkjaaGreatDoor.Pt

namespace Go.Proofs.YtlmpoiohbelkjaaGreatDoor.Pt
open Go Go.RowKit Go.Proofs.YtlmpoiohbelkjaaGreatDoor.Nm Go.Proofs.YtlmpoiohbelkjaaGreatDoor.Ty Go.Proofs.YtlmpoiohbelkjaaGreatDoor.Hi Go.Proofs.YtlmpoiohbelkjaaGreatDoorW.PrintWords Go.Proofs.YtlmpoiohbelkjaaGreatDoorW.PrintLast Go.Proofs.YtlmpoiohbelkjaaGreatDoorW.PrintMore
set_option linter.unusedVariables false
set_option linter.unusedSimpArgs false
set_option maxRecDepth 100000
structure HVal where
 f0 : Bool
 f1 : Int
def kV : Kd HVal := Kd.iso (Kd.pair Kd.bool (Kd.int .i64)) (fun x : HVal => (x.f0, x.f1))
theorem kV_mkM (w : World) (base : Nat) (ok : Nat → Prop) (x : HVal) : kV.M w base ok x [.bool x.f0, .int .i64 x.f1] := ⟨[.bool x.f0], [.int .i64 x.f1], rfl, rfl, rfl⟩
structure HObj where
 f0 : S31
 f1 : List HVal
def kO : Kd HObj := Kd.iso (Kd.pair k31 (Kd.slice 37 kV)) (fun x : HObj => (x.f0, x.f1))
theorem kO_mkM (w : World) (base : Nat) (ok : Nat → Prop) (x : HObj) {v0 : Value} (g0 : kV.R 37 w base ok v0 x.f1) : kO.M w base ok x [.int .i64 x.f0.f0, .string x.f0.f1, v0] := ⟨[.int .i64 x.f0.f0, .string x.f0.f1], [v0], rfl, k31_mkM w base ok x.f0, ⟨v0, rfl, g0⟩⟩
theorem infoVal : (Tryz.prog.info? 37).map (fun i => (i.zero, i.size, i.bytes)) = some (some (.agg #[.bool false, .int .i64 0]), kV.sz, 16) := by kernel_rfl
theorem infoObj : (Tryz.prog.info? 59).map (fun i => (i.zero, i.size, i.bytes)) = some (some (.agg #[.int .i64 0, .string ⟨#[]⟩, .slice none 0 0]), kO.sz, 48) := by kernel_rfl
structure HIn (w : World) (base gh gl g : Nat) (v : Value) (os : List HObj) (words : Int) : Prop where
 head : w.heap[gh]? = some (.cells #[.pointer (some ⟨gl, 0, none⟩), .pointer (some ⟨g, 0, none⟩), v, .int .i64 words] 49 (0, 0))
 row : Kd.R kO 59 w base (fun k => k ≠ gh) v os
theorem HIn.below {w w' : World} {base gh gl g : Nat} {v : Value} {os : List HObj} {words : Int} (h : HIn w base gh gl g v os words) (hb : Below w.heap.size w w') : HIn w' base gh gl g v os words :=
 ⟨blk_below h.head hb, Kd.R_below h.row hb⟩
theorem HIn.new {w : World} (gh gl g : Nat) (h : w.heap[gh]? = some (.cells #[.pointer (some ⟨gl, 0, none⟩), .pointer (some ⟨g, 0, none⟩), .slice none 0 0, .int .i64 0] 49 (0, 0))) (base : Nat) : HIn w base gh gl g (.slice none 0 0) [] 0 :=
 ⟨h, Kd.R_nil _ _ _ _ _⟩
def refsF (d : Int) (s : ByteArray) : Bool := decide (1 < d) || !s.toList.isEmpty
end Go.Proofs.YtlmpoiohbelkjaaGreatDoor.Pt

namespace Go.Proofs.YtlmpoiohbelkjaaGreatDoor.Pt
open Go Go.RowKit Go.Proofs.YtlmpoiohbelkjaaGreatDoor.Nm Go.Proofs.YtlmpoiohbelkjaaGreatDoor.Ty Go.Proofs.YtlmpoiohbelkjaaGreatDoor.Hi Go.Proofs.YtlmpoiohbelkjaaGreatDoorW.PrintWords Go.Proofs.YtlmpoiohbelkjaaGreatDoorW.PrintLast Go.Proofs.YtlmpoiohbelkjaaGreatDoorW.PrintMore
set_option linter.unusedVariables false
set_option linter.unusedSimpArgs false
set_option maxRecDepth 100000
theorem hp_Len_any {w : World} {base gh gl g : Nat} {v : Value} {os : List HObj} {words : Int} (h : HIn w base gh gl g v os words) :
  Calls Tryz.prog 13 #[.pointer (some ⟨gh, 0, none⟩)] w fun e w' => e = .returned (.int .i64 os.length) ∧ w' = w := by
 obtain ⟨A, c, rfl⟩ := Kd.R_slice h.row; have z2 : w.cell? ⟨gh, 2, none⟩ = some (.slice A os.length c) := (blk_cell h.head 2).trans rfl; clear h; go_enter Tryz.func13, Tryz.ntmps13; go_wp2; go_ret
 exact ⟨rfl, rfl⟩
theorem hp_Words_any {w : World} {base gh gl g : Nat} {v : Value} {os : List HObj} {words : Int} (h : HIn w base gh gl g v os words) :
  Calls Tryz.prog 14 #[.pointer (some ⟨gh, 0, none⟩)] w fun e w' => e = .returned (.int .i64 words) ∧ w' = w := by
 have z3 : w.cell? ⟨gh, 3, none⟩ = some (.int .i64 words) := (blk_cell h.head 3).trans rfl; clear h; go_enter Tryz.func14, Tryz.ntmps14; go_wp2; go_ret
 exact ⟨rfl, rfl⟩
def fullF (n : Nat) (words a b : Int) : Bool := decide (1000 - (n : Int) < a) || decide (20000 - words < b)
theorem hp_full_any {w : World} {base gh gl g : Nat} {v : Value} {os : List HObj} {words : Int} (h : HIn w base gh gl g v os words) (hn : os.length ≤ 1000) (hw0 : 0 ≤ words) (hw : words ≤ 20000) (a b : Int) :
  Calls Tryz.prog 18 #[.pointer (some ⟨gh, 0, none⟩), .int .i64 a, .int .i64 b] w fun e w' => e = .returned (.bool (fullF os.length words a b)) ∧ w' = w := by
 obtain ⟨A, c, rfl⟩ := Kd.R_slice h.row; have z2 : w.cell? ⟨gh, 2, none⟩ = some (.slice A os.length c) := (blk_cell h.head 2).trans rfl; have z3 : w.cell? ⟨gh, 3, none⟩ = some (.int .i64 words) := (blk_cell h.head 3).trans rfl
 have e1 : wrap64 (1000 - (os.length : Int)) = 1000 - (os.length : Int) := by unfold wrap64; omega
 have e2 : wrap64 (20000 - words) = 20000 - words := by unfold wrap64; omega
 clear h; unfold fullF
 by_cases h1 : 1000 - (os.length : Int) < a
 ·have h1b : decide (1000 - (os.length : Int) < a) = true := decide_eq_true h1
  go_enter Tryz.func18, Tryz.ntmps18; go_wp2; go_ret
  exact ⟨by first | rfl | (rw [h1b]; rfl), rfl⟩
 ·have h1b : decide (1000 - (os.length : Int) < a) = false := decide_eq_false h1
  go_enter Tryz.func18, Tryz.ntmps18; go_wp2; go_ret
  exact ⟨by first | rfl | (rw [h1b]; rfl), rfl⟩
theorem hp_refs_any (d : Int) (s : ByteArray) (w : World) : Calls Tryz.prog 26 #[.agg #[.int .i64 d, .string s]] w fun e w' => e = .returned (.bool (refsF d s)) ∧ Below w.heap.size w w' := by
 unfold refsF; have hB := Lib.hid (below_alloc (Below.refl w.heap.size w) (.cells #[.int .i64 d, .string s] 31))
 by_cases h1 : 1 < d
 ·have h1b : decide (1 < d) = true := decide_eq_true h1
  go_enter Tryz.func26, Tryz.ntmps26; go_wp2; go_ret
  exact ⟨by rw [h1b]; rfl, hB.out⟩
 ·have h1b : decide (1 < d) = false := decide_eq_false h1
  go_enter Tryz.func26, Tryz.ntmps26; go_wp2; go_ret; refine ⟨?_, hB.out⟩
  first
   | rfl
   | (rw [h1b, Bool.false_or]; rfl)
end Go.Proofs.YtlmpoiohbelkjaaGreatDoor.Pt

namespace Go.Proofs.YtlmpoiohbelkjaaGreatDoor.Pt
open Go Go.RowKit Go.Proofs.YtlmpoiohbelkjaaGreatDoor.Nm Go.Proofs.YtlmpoiohbelkjaaGreatDoor.Ty Go.Proofs.YtlmpoiohbelkjaaGreatDoor.Hi Go.Proofs.YtlmpoiohbelkjaaGreatDoorW.PrintWords Go.Proofs.YtlmpoiohbelkjaaGreatDoorW.PrintLast Go.Proofs.YtlmpoiohbelkjaaGreatDoorW.PrintMore
set_option linter.unusedVariables false
set_option linter.unusedSimpArgs false
set_option maxRecDepth 100000
set_option maxHeartbeats 4000000
def vcells (l : List HVal) : List Value := l.flatMap fun x => [.bool x.f0, .int .i64 x.f1]
theorem vcells_made (n : Nat) : (madeCells #[Value.bool false, Value.int .i64 0] (n * 2)).toList = vcells (List.replicate n ⟨false, 0⟩) := by
 have h : ∀ (n i : Nat), (vcells (List.replicate n ⟨false, 0⟩))[i]? = if i < n * 2 then #[Value.bool false, Value.int .i64 0][i % 2]? else none := by
  intro n
  induction n with
  | zero => intro i; simp [vcells]
  | succ n ih =>
   intro i; have e : vcells (List.replicate (n + 1) ⟨false, 0⟩) = Value.bool false :: Value.int .i64 0 :: vcells (List.replicate n ⟨false, 0⟩) := rfl; rw [e]
   match i with
   | 0 => simp
   | 1 => simp; omega
   | i + 2 =>
    rw [List.getElem?_cons_succ, List.getElem?_cons_succ, ih, show (i + 2) % 2 = i % 2 by omega]
    by_cases hi : i < n * 2
    ·rw [if_pos hi, if_pos (by omega)]
    ·rw [if_neg hi, if_neg (by omega)]
 apply List.ext_getElem?
 intro i; rw [h]
 by_cases hi : i < n * 2
 ·have h2 : i % 2 < 2 := Nat.mod_lt _ (by decide)
  rw [if_pos hi]; simp [madeCells, hi]; rw [getElem?_pos _ _ (by simpa using h2)]
  try rfl
 ·rw [if_neg hi]
  simp [madeCells, hi]
theorem vcells_set (l : List HVal) (j : Nat) (hj : j < l.length) (b : Bool) : (vcells l).set (j * 2) (.bool b) = vcells (l.set j ⟨b, l[j].f1⟩) := by
 induction l generalizing j with
 | nil => simp at hj
 | cons x l ih =>
  cases j with
  | zero => rfl
  | succ j =>
   have e : vcells (x :: l) = Value.bool x.f0 :: Value.int .i64 x.f1 :: vcells l := rfl; have := ih j (by simpa using hj); rw [e, show (j + 1) * 2 = j * 2 + 1 + 1 by omega, List.set_cons_succ, List.set_cons_succ, this]
   rfl
theorem vcells_len (l : List HVal) : (vcells l).length = l.length * 2 := by
 induction l with
 | nil => rfl
 | cons x l ih =>
  have e : vcells (x :: l) = Value.bool x.f0 :: Value.int .i64 x.f1 :: vcells l := rfl; rw [e, List.length_cons, List.length_cons, List.length_cons, ih]
  omega
theorem reps_v {w : World} {base : Nat} {ok : Nat → Prop} (l : List HVal) : Reps (kV.M w base ok) 2 l (vcells l) := by
 refine ⟨vcells_len l, fun j p hj => ?_⟩
 have e : ((vcells l).drop (j * 2)).take 2 = [.bool p.f0, .int .i64 p.f1] := by
  induction l generalizing j with
  | nil => simp at hj
  | cons x l ih =>
   cases j with
   | zero => simp at hj; subst hj; rfl
   | succ j =>
    have := ih j (by simpa using hj); rw [show (j + 1) * 2 = j * 2 + 1 + 1 by omega]
    exact this
 rw [e]
 exact kV_mkM _ _ _ _
def layL (r : Bool) (n j : Nat) : List HVal := List.replicate j ⟨r, 0⟩ ++ List.replicate (n - j) ⟨false, 0⟩
theorem layL_len (r : Bool) {n j : Nat} (hj : j ≤ n) : (layL r n j).length = n := by simp [layL]; omega
theorem layL_set (r : Bool) {n j : Nat} (hj : j < n) : (vcells (layL r n j)).set (j * 2) (.bool r) = vcells (layL r n (j + 1)) := by
 have hl : j < (layL r n j).length := by rw [layL_len r (by omega)]; exact hj
 rw [vcells_set _ _ hl]
 congr 1
 obtain ⟨m, rfl⟩ : ∃ m, n = j + 1 + m := ⟨n - (j + 1), by omega⟩
 have e : layL r (j + 1 + m) j = List.replicate j ⟨r, 0⟩ ++ ⟨false, 0⟩ :: List.replicate m ⟨false, 0⟩ := by
  unfold layL; rw [show j + 1 + m - j = m + 1 by omega, List.replicate_succ]
 have h1 : (layL r (j + 1 + m) j)[j].f1 = 0 := by
  simp only [e]; rw [List.getElem_append_right (by simp)]; simp
 rw [h1, e, List.set_append_right _ _ (by simp), List.length_replicate, Nat.sub_self, List.set_cons_zero]; unfold layL; rw [show j + 1 + m - (j + 1) = m by omega, List.replicate_succ', List.append_assoc]
 rfl
theorem make_vals (w : World) (n : Nat) (hn : n ≤ 20000) : ∃ w', (Instr.makeSlice 57 (.int .i64 (n : Int)) (.int .i64 (n : Int))).run Tryz.prog w = .ok (.slice (some ⟨w.heap.size, 0, none⟩) n n) w' ∧
  w'.ownsRow w.heap.size 37 2 (.slice (some ⟨w.heap.size, 0, none⟩) n n) n (vcells (List.replicate n ⟨false, 0⟩)) ∧ Below w.heap.size w w' := by
 obtain ⟨i0, hi, hzz⟩ := Option.map_eq_some_iff.1 infoVal; simp only [Prod.mk.injEq] at hzz; obtain ⟨hz0, hz1, hz2⟩ := hzz; obtain ⟨w2, hmk, hown, hgr⟩ := run_make_full (P := Tryz.prog) w w.heap.size 57 37 i0 (.agg #[.bool false, .int .i64 0]) 2 Tryz.underlying57 hi hz0 hz1 .i64 .i64 n (by rw [hz2]; omega) (by simp only [maxLen]; omega) (Nat.le_refl _); refine ⟨w2, hmk, ?_, ⟨hgr.os, hgr.tape, hgr.output, hgr.size, fun k hk => hgr.block k hk (by simp)⟩⟩; rw [← vcells_made n]
 exact hown
theorem own_bel {w w' : World} {B : Nat} {e : TypeId} {sz : Nat} {v : Value} {n : Nat} {xs : List Value} (h : w.ownsRow B e sz v n xs) (hb : Below w.heap.size w w') : w'.ownsRow B e sz v n xs :=
 h.kept (w' := w') (row := none) ⟨hb.os, hb.tape, hb.output, hb.size, fun k hk _ => hb.block k hk⟩ (by by_cases hv : v.ownBlock = none <;> simp [hv])
theorem val_at {w : World} {B : Nat} {e : TypeId} {p n i : Nat} {xs : List Value} {u : Value} (h : w.ownsRow B e 2 (.slice (some ⟨p, 0, none⟩) n n) n xs) (hu : xs[i]? = some u) : w.cell? ⟨p, i, none⟩ = some u := by
 have := World.ownsRow.cells h (g := p) rfl i u hu
 rwa [add_at, Nat.zero_add] at this
theorem lay_any (base gh gl g : Nat) (v : Value) (os : List HObj) (words d : Int) (s : ByteArray) (n : Nat) (w : World) (h : HIn w base gh gl g v os words) (hbg : base ≤ gh) (hn : n ≤ 20000) (hos : os.length ≤ 1000) (hw0 : 0 ≤ words) (hw1 : words ≤ 20000) :
    Calls Tryz.prog 21 #[.pointer (some ⟨gh, 0, none⟩), .agg #[.int .i64 d, .string s], .int .i64 (n : Int)] w fun e w' => e = .returned (.int .i64 ((os.length + 1 : Nat) : Int)) ∧ (∃ v', HIn w' base gh gl g v' (os ++ [⟨⟨d, s⟩, List.replicate n ⟨refsF d s, 0⟩⟩]) (words + n)) ∧ Below base w w' := by
  have H := Lib.hid h
  clear h
  have hgw : gh < w.heap.size := blk_lt H.out.head
  obtain ⟨W0, hW0⟩ : ∃ W0, W0 = w.alloc (.cells #[.int .i64 d, .string s] 31) := ⟨_, rfl⟩
  have hs0 : W0.heap.size = w.heap.size + 1 := by rw [hW0]; exact World.size_alloc _ _
  have T0 : Hid (W0.heap[w.heap.size]? = some (.cells #[.int .i64 d, .string s] 31 (0, 0))) := Lib.hid (by rw [hW0]; exact heap_alloc_new w _)
  have B0 : Hid (Below w.heap.size w W0) := Lib.hid (by rw [hW0]; exact below_alloc (Below.refl _ _) _)
  -- the array made behind the object's place
  obtain ⟨W1, hW1⟩ : ∃ W1, W1 = W0.alloc (.cells #[.int .i64 0, .string ⟨#[]⟩, .slice none 0 0] 59) := ⟨_, rfl⟩
  have hs1 : W1.heap.size = w.heap.size + 2 := by rw [hW1, World.size_alloc, hs0]
  have B1 : Hid (Below W0.heap.size W0 W1) := Lib.hid (by rw [hW1]; exact below_alloc (Below.refl _ _) _)
  have O1 : Hid (W1.heap[w.heap.size + 1]? = some (.cells #[.int .i64 0, .string ⟨#[]⟩, .slice none 0 0] 59 (0, 0))) := Lib.hid (by rw [hW1, ← hs0]; exact heap_alloc_new W0 _)
  obtain ⟨wa, ma, oa, ba⟩ := make_vals W1.drew n hn
  have ea : W1.drew.heap.size = w.heap.size + 2 := hs1
  rw [ea] at ma oa ba
  -- the array made ahead of it
  obtain ⟨wb, mb, ob, bb⟩ := make_vals W0.drew n hn
  have eb : W0.drew.heap.size = w.heap.size + 1 := hs0
  rw [eb] at mb ob bb
  replace ba : Hid (Below W1.heap.size W1 wa) := Lib.hid (by rw [hs1]; exact ⟨ba.os, ba.tape, ba.output, ba.size, ba.block⟩)
  replace bb : Hid (Below W0.heap.size W0 wb) := Lib.hid (by rw [hs0]; exact ⟨bb.os, bb.tape, bb.output, bb.size, bb.block⟩)
  have ta0 : W1.drew.cell? ⟨w.heap.size, 0, none⟩ = some (.int .i64 d) := (blk_cell (blk_below T0.out B1.out) 0).trans rfl
  have ta1 : W1.drew.cell? ⟨w.heap.size, 1, none⟩ = some (.string s) := (blk_cell (blk_below T0.out B1.out) 1).trans rfl
  have tb0 : W0.drew.cell? ⟨w.heap.size, 0, none⟩ = some (.int .i64 d) := (blk_cell T0.out 0).trans rfl
  have tb1 : W0.drew.cell? ⟨w.heap.size, 1, none⟩ = some (.string s) := (blk_cell T0.out 1).trans rfl
  have TA := Lib.hid (blk_below (blk_below T0.out B1.out) ba.out)
  have TB := Lib.hid (blk_below T0.out bb.out)
  have OA := Lib.hid (blk_below O1.out ba.out)
  have ra0 : wa.cell? ⟨w.heap.size, 0, none⟩ = some (.int .i64 d) := (blk_cell TA.out 0).trans rfl
  have ra1 : wa.cell? ⟨w.heap.size, 1, none⟩ = some (.string s) := (blk_cell TA.out 1).trans rfl
  have rb0 : wb.cell? ⟨w.heap.size, 0, none⟩ = some (.int .i64 d) := (blk_cell TB.out 0).trans rfl
  have rb1 : wb.cell? ⟨w.heap.size, 1, none⟩ = some (.string s) := (blk_cell TB.out 1).trans rfl
  have o0 : wa.cell? ⟨w.heap.size + 1, 0, none⟩ = some (.int .i64 0) := (blk_cell OA.out 0).trans rfl
  have o1 : wa.cell? ⟨w.heap.size + 1, 1, none⟩ = some (.string ⟨#[]⟩) := (blk_cell OA.out 1).trans rfl
  have o2 : wa.cell? ⟨w.heap.size + 1, 2, none⟩ = some (.slice none 0 0) := (blk_cell OA.out 2).trans rfl
  have f0 := blk_frozen OA.out 0
  have f1 := blk_frozen OA.out 1
  have f2 := blk_frozen OA.out 2
  have TC := Lib.hid (blk_below TB.out (below_alloc (Below.refl wb.heap.size wb) (.cells #[.int .i64 0, .string ⟨#[]⟩, .slice none 0 0] 59)))
  have rc0 : (wb.alloc (.cells #[.int .i64 0, .string ⟨#[]⟩, .slice none 0 0] 59)).cell? ⟨w.heap.size, 0, none⟩ = some (.int .i64 d) := (blk_cell TC.out 0).trans rfl
  have rc1 : (wb.alloc (.cells #[.int .i64 0, .string ⟨#[]⟩, .slice none 0 0] 59)).cell? ⟨w.heap.size, 1, none⟩ = some (.string s) := (blk_cell TC.out 1).trans rfl
  replace oa := Lib.hid oa
  replace ob := Lib.hid ob
  go_enter Tryz.func21, Tryz.ntmps21
  go_upto_region 1 with fail
  rw [← hW0]
  clear hW0
  go_cut [7] (fun v7 wc => ∃ bo p, v7 = .pointer (some ⟨bo, 0, none⟩) ∧ Hid (Below w.heap.size w wc) ∧ Hid (wc.heap[w.heap.size]? = some (.cells #[.int .i64 d, .string s] 31 (0, 0))) ∧
    Hid (wc.heap[bo]? = some (.cells #[.int .i64 d, .string s, .slice (some ⟨p, 0, none⟩) n n] 59 (0, 0))) ∧ Hid (wc.ownsRow (w.heap.size + 1) 37 2 (.slice (some ⟨p, 0, none⟩) n n) n (vcells (List.replicate n ⟨false, 0⟩))) ∧ Hid (bo ≠ p ∧ w.heap.size < bo ∧ w.heap.size < p))
  case first =>
    subst hW1
    go_region
    · go_wp2
      go_meet
      case rel =>
        refine ⟨wb.heap.size, w.heap.size + 1, rfl, Lib.hid ((B0.out.trans (bb.out.mono B0.out.size)).alloc (Nat.le_trans B0.out.size bb.out.size) _), Lib.hid (blk_below TB.out (below_alloc (Below.refl _ _) _)), Lib.hid (heap_alloc_new _ _), Lib.hid (ob.out.alloc _), Lib.hid ?_⟩
        have := (ob.out.lt (w.heap.size + 1) rfl).2
        omega
    · go_wp2
      go_meet
      case rel =>
        have hq := (oa.out.lt (w.heap.size + 2) rfl).2
        have hBa : Below w.heap.size w wa := (B0.out.trans (B1.out.mono B0.out.size)).trans (ba.out.mono (Nat.le_trans B0.out.size B1.out.size))
        refine ⟨w.heap.size + 1, w.heap.size + 2, rfl, Lib.hid (below_set (below_set (below_set hBa (by omega)) (by omega)) (by omega)), Lib.hid (blk_far (blk_far (blk_far TA.out (by simp) _) (by simp) _) (by simp) _), Lib.hid (blk_set (blk_set (blk_set OA.out 0 _) 1 _) 2 _), Lib.hid ?_, Lib.hid ⟨by omega, by omega, by omega⟩⟩
        have ho := World.ownsRow.mono oa.out (show w.heap.size + 1 ≤ w.heap.size + 2 by omega)
        exact own_setCell (own_setCell (own_setCell ho (by simp [Value.ownBlock]) _) (by simp [Value.ownBlock]) _) (by simp [Value.ownBlock]) _
  case rest =>
    obtain ⟨bo, p, rfl, HB, HT, HO, HW, hpq⟩ := hcut
    clear ma mb ta0 ta1 tb0 tb1 TA TB OA ra0 ra1 rb0 rb1 o0 o1 o2 f0 f1 f2 TC rc0 rc1 oa ob ba bb T0 B0 O1 B1 hs0 hs1 hW1 ea eb
    have HR := Lib.hid (fun W => hp_refs_any d s W)
    generalize hr : refsF d s = r at *
    replace hr := Lib.hid hr
    have z2 : wc.cell? ⟨bo, 2, none⟩ = some (.slice (some ⟨p, 0, none⟩) n n) := (blk_cell HO.out 2).trans rfl
    have HW0 : Hid (wc.ownsRow (w.heap.size + 1) 37 2 (.slice (some ⟨p, 0, none⟩) n n) n (vcells (layL r n 0))) := by
      have e : layL r n 0 = List.replicate n ⟨false, 0⟩ := by simp [layL]
      rw [e]
      exact HW
    clear HW
    go_wp2
    go_loopw [16] (fun i wr => ∃ j : Nat, j ≤ n ∧ i = .int .i64 j ∧ Hid (Below w.heap.size w wr) ∧ Hid (wr.heap[w.heap.size]? = some (.cells #[.int .i64 d, .string s] 31 (0, 0))) ∧
      Hid (wr.heap[bo]? = some (.cells #[.int .i64 d, .string s, .slice (some ⟨p, 0, none⟩) n n] 59 (0, 0))) ∧ Hid (wr.ownsRow (w.heap.size + 1) 37 2 (.slice (some ⟨p, 0, none⟩) n n) n (vcells (layL r n j)))) (fun i _ => n - (intOf i).toNat)
    case atStart => exact ⟨0, Nat.zero_le _, rfl, HB, HT, HO, HW0⟩
    case round =>
      clear HB HT HO HW0 z2
      obtain ⟨j, hj, rfl, HB, HT, HO, HW⟩ := hrel
      by_cases hlt : j < n
      · have r1 : ((j : Int) < (n : Int)) = True := eq_true (by omega)
        have y0 : wr.drew.cell? ⟨w.heap.size, 0, none⟩ = some (.int .i64 d) := (blk_cell HT.out 0).trans rfl
        have y1 : wr.drew.cell? ⟨w.heap.size, 1, none⟩ = some (.string s) := (blk_cell HT.out 1).trans rfl
        have y2 : wr.drew.cell? ⟨bo, 2, none⟩ = some (.slice (some ⟨p, 0, none⟩) n n) := (blk_cell HO.out 2).trans rfl
        have hyl : (vcells (layL r n j)).length = n * 2 := by rw [vcells_len, layL_len r hj]
        obtain ⟨u0, hu0⟩ : ∃ u, (vcells (layL r n j))[j * 2]? = some u := ⟨_, List.getElem?_eq_getElem (by omega)⟩
        replace hu0 := Lib.hid hu0
        clear hyl
        go_upto_region 5 with fail
        go_region_with (go_at_call 26; refine (HR.out _).mono ?_; rintro e w5 ⟨rfl, hb5⟩; have hb6 : Hid (Below wr.heap.size wr w5) := Lib.hid ⟨hb5.os, hb5.tape, hb5.output, hb5.size, hb5.block⟩; have y3 : w5.cell? ⟨bo, 2, none⟩ = some (.slice (some ⟨p, 0, none⟩) n n) := (blk_cell (blk_below HO.out hb6.out) 2).trans rfl; have ho5 := Lib.hid (own_bel HW.out hb6.out); have c0 := val_at ho5.out hu0.out; have z0 := World.ownsRow.frozenAt ho5.out (j * 2); clear hb5)
        all_goals have K1 := Lib.hid ((HB.out.trans (hb6.out.mono HB.out.size)).setCell (p := ⟨p, j * 2, none⟩) (Nat.le_of_lt hpq.out.2.2) (.bool r))
        all_goals have K2 := Lib.hid (blk_far (p := ⟨p, j * 2, none⟩) (blk_below HT.out hb6.out) (Nat.ne_of_lt hpq.out.2.2) (.bool r))
        all_goals have K3 := Lib.hid (blk_far (p := ⟨p, j * 2, none⟩) (blk_below HO.out hb6.out) hpq.out.1 (.bool r))
        all_goals have K4 : Hid ((w5.setCell ⟨p, j * 2, none⟩ (.bool r)).ownsRow (w.heap.size + 1) 37 2 (.slice (some ⟨p, 0, none⟩) n n) n (vcells (layL r n (j + 1)))) := Lib.hid (by
          have := (ho5.out.stored (j * 2) (.bool r)).1
          rwa [layL_set r hlt] at this)
        all_goals clear ho5 c0 z0 y3 hb6
        all_goals go_wp2
        all_goals exact ⟨⟨j + 1, by omega, by go_num, K1, K2, K3, K4⟩, by simp [intOf]; omega⟩
      · obtain rfl : j = n := by omega
        have eL : layL r j j = List.replicate j ⟨r, 0⟩ := by simp [layL]
        rw [eL] at HW
        clear eL HR
        obtain ⟨A, c, rfl⟩ := Kd.R_slice H.out.row
        have HIw := Lib.hid (H.out.below HB.out)
        have hbw : base ≤ w.heap.size := by have := hbg; omega
        have hwr : w.heap.size ≤ wr.heap.size := HB.out.size
        have hgr : gh < wr.heap.size := by omega
        have hgn : Hid (some gh ≠ (Value.slice A os.length c).ownBlock) := Lib.hid (fun e => (HIw.out.row.1 gh e.symm) rfl)
        have hown : Hid (∀ k, (Value.slice A os.length c).ownBlock = some k → k < w.heap.size) := Lib.hid (fun k hk => by
          obtain ⟨_, inner, ho, _⟩ := H.out.row
          exact (ho.lt k hk).2)
        have hM : Hid (kO.M wr.drew base (fun k => w.heap.size ≤ k) ⟨⟨d, s⟩, List.replicate j ⟨r, 0⟩⟩ [.int .i64 d, .string s, .slice (some ⟨p, 0, none⟩) j j]) := Lib.hid (kO_mkM _ _ _ ⟨⟨d, s⟩, List.replicate j ⟨r, 0⟩⟩ ⟨fun k hk => (by
            have hk : some p = some k := hk
            injection hk with hk
            rw [← hk]
            exact Nat.le_of_lt hpq.out.2.2), vcells (List.replicate j ⟨r, 0⟩), (by
              have e : (List.replicate j (⟨r, 0⟩ : HVal)).length = j := List.length_replicate
              rw [e]
              exact World.ownsRow.mono HW.out (by omega)), reps_v _⟩)
        have hokp : Hid (∀ k, w.heap.size ≤ k → k ≠ gh ∧ some k ≠ (Value.slice A os.length c).ownBlock) := Lib.hid (fun k hk => ⟨by omega, fun e => by have := hown.out k e.symm; omega⟩)
        have hfr : Hid (∀ k, wr.drew.heap.size ≤ k → k ≠ gh) := Lib.hid (fun k hk => by have : wr.heap.size ≤ k := hk; omega)
        have k2 : wr.drew.cell? ⟨gh, 2, none⟩ = some (.slice A os.length c) := (blk_cell HIw.out.head 2).trans rfl
        have b0 : wr.drew.cell? ⟨bo, 0, none⟩ = some (.int .i64 d) := (blk_cell HO.out 0).trans rfl
        have b1 : wr.drew.cell? ⟨bo, 1, none⟩ = some (.string s) := (blk_cell HO.out 1).trans rfl
        have b2 : wr.drew.cell? ⟨bo, 2, none⟩ = some (.slice (some ⟨p, 0, none⟩) j j) := (blk_cell HO.out 2).trans rfl
        have BL : Below wr.heap.size wr (wr.alloc (.cells #[.int .i64 d, .string s, .slice (some ⟨p, 0, none⟩) j j] 59)) := below_alloc (Below.refl _ _) _
        have k2a : (wr.alloc (.cells #[.int .i64 d, .string s, .slice (some ⟨p, 0, none⟩) j j] 59)).drew.cell? ⟨gh, 2, none⟩ = some (.slice A os.length c) := (blk_cell (blk_below HIw.out.head BL) 2).trans rfl
        have hgf := blk_frozen HIw.out.head 2
        have hb9 : base ≤ wr.heap.size := by omega
        go_upto_region 7 with fail
        go_cut [] (fun wf => ∃ A9 c9, Hid (wf.heap[gh]? = some (.cells #[.pointer (some ⟨gl, 0, none⟩), .pointer (some ⟨g, 0, none⟩), .slice A9 (os.length + 1) c9, .int .i64 words] 49 (0, 0))) ∧
          Hid (Kd.R kO 59 wf base (fun k => k ≠ gh) (.slice A9 (os.length + 1) c9) (os ++ [⟨⟨d, s⟩, List.replicate j ⟨r, 0⟩⟩])) ∧ Hid (Below base w wf))
        case first =>
          go_region_law (first | (refine Kd.R_append_step kO (W := wr.drew) (w0 := wr) base (by rfl) (.tmp 31) (.tmp 33) 47 59 (.agg #[.int .i64 0, .string ⟨#[]⟩, .slice none 0 0]) 48 (by rfl) Tryz.underlying47 infoObj rfl (by decide) (by omega) _ os ⟨⟨d, s⟩, List.replicate j ⟨r, 0⟩⟩ [.int .i64 d, .string s, .slice (some ⟨p, 0, none⟩) j j] (fun k => k ≠ gh) (fun k => w.heap.size ≤ k) (by rfl) (by rfl) hM.out hokp.out hfr.out (Kd.R_below HIw.out.row (below_drew1 (Below.refl _ _))) ((below_drew1 (Below.refl _ _)).mono hb9) hb9 (by omega) ?_; intro v1 w2 h1 h2 h3 h4; obtain ⟨A9, c9, rfl⟩ := Kd.R_slice h1; rw [show (os ++ [(⟨⟨d, s⟩, List.replicate j ⟨r, 0⟩⟩ : HObj)]).length = os.length + 1 by simp] at h1; replace h1 := Lib.hid h1; replace h2 := Lib.hid h2; replace h3 := Lib.hid h3; have kx := (h3.out.frozen_far ⟨gh, 2, none⟩ hgr hgn.out).trans hgf; have qx := (h3.out.cell_far ⟨gh, 2, none⟩ hgr hgn.out).trans k2; clear h4))
          all_goals have N1 := Lib.hid (blk_set (blk_grown (w := wr.drew) HIw.out.head h3.out hgn.out) 2 (.slice A9 (os.length + 1) c9))
          all_goals have N2 := Lib.hid (Kd.R_far (p := ⟨gh, 2, none⟩) h1.out (fun k hk => hk) (.slice A9 (os.length + 1) c9))
          all_goals have N3 := Lib.hid (((HB.out.mono hbw).trans h2.out).setCell (p := ⟨gh, 2, none⟩) hbg (.slice A9 (os.length + 1) c9))
          all_goals clear h1 h2 h3 kx qx
          all_goals go_wp2
          all_goals go_meet
          all_goals (case rel => exact ⟨A9, c9, N1, N2, N3⟩)
        case rest =>
          obtain ⟨A9, c9, N1, N2, N3⟩ := hcut
          have hww : wrap64 (words + (j : Int)) = words + (j : Int) := by unfold wrap64; omega
          have q3 : wc.cell? ⟨gh, 3, none⟩ = some (.int .i64 words) := (blk_cell N1.out 3).trans rfl
          have q3f := blk_frozen N1.out 3
          have M1 := Lib.hid (blk_set N1.out 3 (.int .i64 (words + (j : Int))))
          have M2 := Lib.hid (Kd.R_far (p := ⟨gh, 3, none⟩) N2.out (fun k hk => hk) (.int .i64 (words + (j : Int))))
          have M3 := Lib.hid (N3.out.setCell (p := ⟨gh, 3, none⟩) hbg (.int .i64 (words + (j : Int))))
          have q2 : (wc.setCell ⟨gh, 3, none⟩ (.int .i64 (words + (j : Int)))).cell? ⟨gh, 2, none⟩ = some (.slice A9 (os.length + 1) c9) := (blk_cell M1.out 2).trans rfl
          clear N1 N2 N3
          go_wp2
          go_ret
          exact ⟨rfl, ⟨_, M1.out, by rw [hr.out]; exact M2.out⟩, M3.out⟩
end Go.Proofs.YtlmpoiohbelkjaaGreatDoor.Pt

namespace Go.Proofs.YtlmpoiohbelkjaaGreatDoor.Nm
open Go Go.RowKit
set_option linter.unusedVariables false
set_option linter.unusedSimpArgs false
set_option maxHeartbeats 400000
set_option maxRecDepth 10000
theorem toList_inj {x y : ByteArray} (h : x.toList = y.toList) : x = y := bytes_inj (by rw [← ByteArray.toList_eq, ← ByteArray.toList_eq, h])
end Go.Proofs.YtlmpoiohbelkjaaGreatDoor.Nm

namespace Go.Proofs.YtlmpoiohbelkjaaGreatDoor.Ty
open Go Go.RowKit Go.Proofs.YtlmpoiohbelkjaaGreatDoor.Nm
set_option linter.unusedVariables false
set_option linter.unusedSimpArgs false
set_option maxHeartbeats 1000000
set_option maxRecDepth 10000
def place (L r : List UInt8) : Int := (L.length : Int) - (r.length : Int)
end Go.Proofs.YtlmpoiohbelkjaaGreatDoor.Ty

namespace Go.Proofs.YtlmpoiohbelkjaaGreatDoor.Ty
open Go Go.RowKit Go.Proofs.YtlmpoiohbelkjaaGreatDoor.Nm
set_option linter.unusedVariables false
set_option linter.unusedSimpArgs false
set_option maxHeartbeats 1000000
set_option maxRecDepth 10000
def arrT (d : Int) (nm : List UInt8) : Int × List UInt8 × Int :=
 if chk d nm ≠ 0 then (0, [], 1) else if d = 255 then (0, [], 5) else (d + 1, nm, 0)
theorem chk_cases (d : Int) (nm : List UInt8) : (chk d nm = 1) ∨ (chk d nm = 0 ∧ 0 ≤ d ∧ d ≤ 255) := by
 rw [chk]
 split
 ·exact .inl rfl
 ·split
  ·exact .inl rfl
  ·right; exact ⟨rfl, by omega, by omega⟩
end Go.Proofs.YtlmpoiohbelkjaaGreatDoor.Ty

namespace Go.Proofs.YtlmpoiohbelkjaaGreatDoor.Ty
open Go Go.RowKit Go.Proofs.YtlmpoiohbelkjaaGreatDoor.Nm
set_option linter.unusedVariables false
set_option linter.unusedSimpArgs false
set_option maxHeartbeats 1000000
set_option maxRecDepth 10000
theorem turned_any (d k : Int) (nm : List UInt8) (w : World) : Calls Tryz.prog 35 #[tyV d nm, .int .i64 k] w fun e w' =>
  e = .returned (.tuple #[tyV k nm, .int .i64 0]) ∧ Below w.heap.size w w' := by
 have B0 := Lib.hid (Below.refl w.heap.size w); rw [tyV]; go_enter Tryz.func35, Tryz.ntmps35; go_wp2; refine bodyPost_ret (v := .tuple #[tyV k nm, .int .i64 0]) (by simp [results, Tryz.results35, go_sem, tyV]) rfl ⟨rfl, ?_⟩; have B4 := B0.out
 repeat' (first | assumption | apply Below.setCell | apply Below.alloc | apply Below.drew)
 all_goals (first | omega | (simp; done) | (simp; omega))
theorem arrayof_any (d : Int) (nm : List UInt8) (w : World) (hm : ML w) : Calls Tryz.prog 19 #[tyV d nm] w fun e w' =>
  e = .returned (.tuple #[tyV (arrT d nm).1 (arrT d nm).2.1, .int .i64 (arrT d nm).2.2]) ∧ Below w.heap.size w w' := by
 have A0 := Two.new w d (bs nm) 31; have T0 := Two.new (w.alloc (.cells #[.int .i64 d, .string (bs nm)] 31)) 0 ⟨#[]⟩ 31
 have hz : (w.alloc (.cells #[.int .i64 d, .string (bs nm)] 31)).heap.size = w.heap.size + 1 := by simp
 rw [hz] at T0; have A1 := A0.kept (World.grownBy_alloc _ (.cells #[.int .i64 0, .string ⟨#[]⟩] 31) none) (by simp); have C := Lib.hid (check_any d nm ((w.alloc (.cells #[.int .i64 d, .string (bs nm)] 31)).alloc (.cells #[.int .i64 0, .string ⟨#[]⟩] 31)) (ml_alloc (ml_alloc hm _) _)); have B0 := ((Below.refl w.heap.size w).alloc (Nat.le_refl _) (.cells #[.int .i64 d, .string (bs nm)] 31)).alloc (by simp) (.cells #[.int .i64 0, .string ⟨#[]⟩] 31); have K := chk_cases d nm
 have ha : arrT d nm = if chk d nm ≠ 0 then (0, [], 1) else if d = 255 then (0, [], 5) else (d + 1, nm, 0) := rfl
 replace ha := Lib.hid ha; replace A1 := Lib.hid A1; replace T0 := Lib.hid T0; replace B0 := Lib.hid B0; clear A0 hz; rw [tyV]; go_enter Tryz.func19, Tryz.ntmps19; go_wp2_with fail; refine C.out.mono ?_; rintro e w3 ⟨rfl, hb⟩; have A3 := A1.out.kept (gb_below hb) (by simp); have T3 := T0.out.kept (gb_below hb) (by simp); have B3 := B0.out.trans (hb.mono (by simp; omega)); clear A1 T0 B0 hb C; have a0 := A3.c0; have a1 := A3.c1; have h0 := T3.c0; have h1 := T3.c1; have f0 := T3.f0; have f1 := T3.f1; replace T3 := Lib.hid T3; replace A3 := Lib.hid A3; replace B3 := Lib.hid B3
 rcases K with hk | ⟨hk, hd0, hd1⟩
 ·have hp := ha.out
  rw [hk, if_pos (by decide)] at hp; replace hp := Lib.hid hp; rw [hk]; clear ha hk; go_wp2; have T5 := (T3.out.set0 0).set1 ⟨#[]⟩; refine bodyPost_ret (v := .tuple #[tyV 0 [], .int .i64 1]) (by simp [results, Tryz.results19, go_sem, tyV, bs_nil, T5.c0, T5.c1]) rfl ⟨by rw [hp.out], ?_⟩; have B4 := B3.out
  repeat' (first | assumption | apply Below.setCell | apply Below.alloc | apply Below.drew)
  all_goals (first | omega | (simp; done) | (simp; omega))
 ·have hp := ha.out
  rw [hk, if_neg (by decide)] at hp; rw [hk]; clear ha hk
  by_cases h255 : d = 255
  ·subst h255
   rw [if_pos rfl] at hp; replace hp := Lib.hid hp; go_wp2; have T5 := (T3.out.set0 (0)).set1 (⟨#[]⟩); refine bodyPost_ret (v := .tuple #[tyV (0) [], .int .i64 5]) (by simp [results, Tryz.results19, go_sem, tyV, bs_nil, T5.c0, T5.c1]) rfl ⟨by rw [hp.out], ?_⟩; have B4 := B3.out
   repeat' (first | assumption | apply Below.setCell | apply Below.alloc | apply Below.drew)
   all_goals (first | omega | (simp; done) | (simp; omega))
  ·rw [if_neg h255] at hp
   replace hp := Lib.hid hp; go_wp2_with fail; refine (turned_any _ _ _ _).mono ?_; rintro e w5 ⟨rfl, hb5⟩; have T6 := T3.out.kept (gb_below hb5) (by simp); have B6 := B3.out.trans (hb5.mono B3.out.size); clear T3 A3 a0 a1 h0 h1 f0 f1 B3; have h0 := T6.c0; have h1 := T6.c1; have f0 := T6.f0; have f1 := T6.f1; replace T6 := Lib.hid T6; replace B6 := Lib.hid B6; rw [tyV]; go_wp2; have T5 := (T6.out.set0 (d + 1)).set1 (bs nm); refine bodyPost_ret (v := .tuple #[tyV (d + 1) nm, .int .i64 0]) (by simp [results, Tryz.results19, go_sem, tyV, bs_nil, T5.c0, T5.c1]) rfl ⟨by rw [hp.out], ?_⟩; have B4 := B6.out
   repeat' (first | assumption | apply Below.setCell | apply Below.alloc | apply Below.drew)
   all_goals (first | omega | (simp; done) | (simp; omega))
end Go.Proofs.YtlmpoiohbelkjaaGreatDoor.Ty

namespace Go.Proofs.YtlmpoiohbelkjaaGreatDoor.Pt
open Go.RowKit Go.Proofs.YtlmpoiohbelkjaaGreatDoorW.PrintWords Go.Proofs.YtlmpoiohbelkjaaGreatDoorW.PrintLast Go.Proofs.YtlmpoiohbelkjaaGreatDoorW.PrintMore
attribute [local go_sem] max2_int min2_int max_two min_two max_three min_three max_four min_four   -- for this text's walks alone
set_option linter.unusedVariables false
set_option linter.unusedSimpArgs false
def arrays_Loaded.f (a0 : List Hi.Ent) (a1_0 : Int) (a1_1 : ByteArray) : Option (Int) := (types_Check.f a1_0 a1_1).bind fun t178 => (if t178 = 0 then ((hier_World_ByName.f a0 a1_1).bind fun bt179 => (if a1_1.toList = ([] : List UInt8) then (some 0) else (if bt179.2 = 0 then (some 0) else (some 20)))) else (some t178))
set_option maxHeartbeats 8000000 in
set_option maxRecDepth 100000 in
theorem arrays_Loaded.calls (G_ : Nat) (a0 : List Hi.Ent) (a1_0 : Int) (a1_1 : ByteArray) (r : Int) (w : World) (hq0 : WOK w G_ a0) (h : arrays_Loaded.f a0 a1_0 a1_1 = some r) :
  Calls Tryz.prog 20 #[.pointer (some ⟨G_, 0, none⟩), .agg #[.int .i64 a1_0, .string a1_1]] w fun e w' => e = .returned (.int .i64 r) ∧ Below w.heap.size w w' := by
 have hu31 := Tryz.underlying31; have HQa0 := Aside0.mk hq0; clear hq0; have HB := Aside0.mk (Below.refl w.heap.size w); have H : ((types_Check.f a1_0 a1_1).bind fun t178 => (if t178 = 0 then ((hier_World_ByName.f a0 a1_1).bind fun bt179 => (if a1_1.toList = ([] : List UInt8) then (some 0) else (if bt179.2 = 0 then (some 0) else (some 20)))) else (some t178))) = some r := h; clear h; replace H := Option.bind_eq_some_iff.mp H; obtain ⟨t178, A30, H⟩ := H; replace H : (if t178 = 0 then ((hier_World_ByName.f a0 a1_1).bind fun bt179 => (if a1_1.toList = ([] : List UInt8) then (some 0) else (if bt179.2 = 0 then (some 0) else (some 20)))) else (some t178)) = some r := H; have A3 := Aside0.mk A30; clear A30
 by_cases c4 : t178 = 0
 ·rw [if_pos c4] at H
  have c4b0 : (t178 == 0) = true := beq_iff_eq.mpr c4; have c4b1 : (t178 != 0) = false := bne_eq_false_iff_eq.mpr c4; clear c4; replace H := Option.bind_eq_some_iff.mp H; obtain ⟨⟨t179, t180⟩, A50, H⟩ := H; replace H : (if a1_1.toList = ([] : List UInt8) then (some 0) else (if t180 = 0 then (some 0) else (some 20))) = some r := H; have A5 := Aside0.mk A50; clear A50
  by_cases c6 : a1_1.toList = ([] : List UInt8)
  ·rw [if_pos c6] at H
   have c6b0 : (a1_1.toList == ([] : List UInt8)) = true := beq_iff_eq.mpr c6; have c6b1 : (a1_1.toList != ([] : List UInt8)) = false := bne_eq_false_iff_eq.mpr c6; clear c6; obtain rfl := Option.some.inj H; go_enter Tryz.func20, Tryz.ntmps20; go_wp2_with (first | ((with_reducible refine gate_dst (N := 3) rfl ?_); refine eX 3 #[.int .i64 a1_0, .string a1_1] 31 ?_; intro gb177 hg w7 hbox hb; have n0_ := Aside0.mk (below_step (bX HB) hb); have n1_ := Aside0.mk (hbox); have n2_ := Aside0.mk ((by rw [hg]; exact (below_size (bX HB)) : w.heap.size ≤ gb177)); have n3_ := Aside0.mk ((by rw [hg]; exact (below_size (bX HB)) : w.heap.size ≤ gb177)); clear HB; have HB := n0_; have BK177 := n1_; have GW177 := n2_; have GE177 := n3_; clear n0_ n1_ n2_ n3_; clear hb hbox hg; obtain ⟨hcz8_0, hcz8_1, hfz8_0, hfz8_1⟩ := c2X BK177) | ((with_reducible refine gate_callee (f := 34) rfl ?_); refine gX (some 11) Tryz.func34 #[.agg #[.int .i64 a1_0, .string a1_1]] ?_; (with_reducible refine (types_Check.calls a1_0 a1_1 t178 _ A3.out).mono ?_); rintro e w9 ⟨rfl, hb⟩; refine ⟨_, rfl, ?_⟩; have n0_ := Aside0.mk (blk_below (kX BK177) hb); have n1_ := Aside0.mk (below_step (bX1 HB GE177) hb); clear BK177; clear HB; have BK177 := n0_; have HB := n1_; clear n0_ n1_; (try clear hb); (try clear hb2); (try clear hk); (try clear hi); obtain ⟨hcz10_0, hcz10_1, hfz10_0, hfz10_1⟩ := c2X BK177) | ((with_reducible refine gate_callee (f := 36) rfl ?_); refine gX (some 19) Tryz.func36 #[.pointer (some ⟨G_, 0, none⟩), .string a1_1] ?_; (with_reducible refine (hier_World_ByName.calls G_ a0 a1_1 t179 t180 _ ?side1 A5.out).mono ?_); (case side1 => repeat (first | (with_reducible exact HQa0.out) | (with_reducible refine WOK.alloc ?_ _) | (with_reducible refine WOK.drewN ?_ _) | (with_reducible refine WOK.drew ?_) | exact WOK.below HQa0.out HB.out | exact WOK.below HQa0.out (bX1 HB GE177))); rintro e w11 ⟨rfl, hb⟩; refine ⟨_, rfl, ?_⟩; have n0_ := Aside0.mk (blk_below (kX BK177) hb); have n1_ := Aside0.mk (below_step (bX1 HB GE177) hb); clear BK177; clear HB; have BK177 := n0_; have HB := n1_; clear n0_ n1_; (try clear hb); (try clear hb2); (try clear hk); (try clear hi); obtain ⟨hcz12_0, hcz12_1, hfz12_0, hfz12_1⟩ := c2X BK177)); go_ret
   exact ⟨by first | rfl | (simp [errW_none, errW_some] <;> rfl) | (simp [*, errW_none, errW_some] <;> rfl), bX1 HB GE177⟩
  ·rw [if_neg c6] at H
   have c6b0 : (a1_1.toList == ([] : List UInt8)) = false := beq_eq_false_iff_ne.mpr c6; have c6b1 : (a1_1.toList != ([] : List UInt8)) = true := bne_iff_ne.mpr c6
   by_cases c13 : t180 = 0
   ·rw [if_pos c13] at H
    have c13b0 : (t180 == 0) = true := beq_iff_eq.mpr c13; have c13b1 : (t180 != 0) = false := bne_eq_false_iff_eq.mpr c13; clear c13; obtain rfl := Option.some.inj H; go_enter Tryz.func20, Tryz.ntmps20; go_wp2_with (first | ((with_reducible refine gate_dst (N := 3) rfl ?_); refine eX 3 #[.int .i64 a1_0, .string a1_1] 31 ?_; intro gb177 hg w14 hbox hb; have n0_ := Aside0.mk (below_step (bX HB) hb); have n1_ := Aside0.mk (hbox); have n2_ := Aside0.mk ((by rw [hg]; exact (below_size (bX HB)) : w.heap.size ≤ gb177)); have n3_ := Aside0.mk ((by rw [hg]; exact (below_size (bX HB)) : w.heap.size ≤ gb177)); clear HB; have HB := n0_; have BK177 := n1_; have GW177 := n2_; have GE177 := n3_; clear n0_ n1_ n2_ n3_; clear hb hbox hg; obtain ⟨hcz15_0, hcz15_1, hfz15_0, hfz15_1⟩ := c2X BK177) | ((with_reducible refine gate_callee (f := 34) rfl ?_); refine gX (some 11) Tryz.func34 #[.agg #[.int .i64 a1_0, .string a1_1]] ?_; (with_reducible refine (types_Check.calls a1_0 a1_1 t178 _ A3.out).mono ?_); rintro e w16 ⟨rfl, hb⟩; refine ⟨_, rfl, ?_⟩; have n0_ := Aside0.mk (blk_below (kX BK177) hb); have n1_ := Aside0.mk (below_step (bX1 HB GE177) hb); clear BK177; clear HB; have BK177 := n0_; have HB := n1_; clear n0_ n1_; (try clear hb); (try clear hb2); (try clear hk); (try clear hi); obtain ⟨hcz17_0, hcz17_1, hfz17_0, hfz17_1⟩ := c2X BK177) | ((with_reducible refine gate_callee (f := 36) rfl ?_); refine gX (some 19) Tryz.func36 #[.pointer (some ⟨G_, 0, none⟩), .string a1_1] ?_; (with_reducible refine (hier_World_ByName.calls G_ a0 a1_1 t179 t180 _ ?side1 A5.out).mono ?_); (case side1 => repeat (first | (with_reducible exact HQa0.out) | (with_reducible refine WOK.alloc ?_ _) | (with_reducible refine WOK.drewN ?_ _) | (with_reducible refine WOK.drew ?_) | exact WOK.below HQa0.out HB.out | exact WOK.below HQa0.out (bX1 HB GE177))); rintro e w18 ⟨rfl, hb⟩; refine ⟨_, rfl, ?_⟩; have n0_ := Aside0.mk (blk_below (kX BK177) hb); have n1_ := Aside0.mk (below_step (bX1 HB GE177) hb); clear BK177; clear HB; have BK177 := n0_; have HB := n1_; clear n0_ n1_; (try clear hb); (try clear hb2); (try clear hk); (try clear hi); obtain ⟨hcz19_0, hcz19_1, hfz19_0, hfz19_1⟩ := c2X BK177)); go_ret
    exact ⟨by first | rfl | (simp [errW_none, errW_some] <;> rfl) | (simp [*, errW_none, errW_some] <;> rfl), bX1 HB GE177⟩
   ·rw [if_neg c13] at H
    have c13b0 : (t180 == 0) = false := beq_eq_false_iff_ne.mpr c13; have c13b1 : (t180 != 0) = true := bne_iff_ne.mpr c13; obtain rfl := Option.some.inj H; go_enter Tryz.func20, Tryz.ntmps20; go_wp2_with (first | ((with_reducible refine gate_dst (N := 3) rfl ?_); refine eX 3 #[.int .i64 a1_0, .string a1_1] 31 ?_; intro gb177 hg w20 hbox hb; have n0_ := Aside0.mk (below_step (bX HB) hb); have n1_ := Aside0.mk (hbox); have n2_ := Aside0.mk ((by rw [hg]; exact (below_size (bX HB)) : w.heap.size ≤ gb177)); have n3_ := Aside0.mk ((by rw [hg]; exact (below_size (bX HB)) : w.heap.size ≤ gb177)); clear HB; have HB := n0_; have BK177 := n1_; have GW177 := n2_; have GE177 := n3_; clear n0_ n1_ n2_ n3_; clear hb hbox hg; obtain ⟨hcz21_0, hcz21_1, hfz21_0, hfz21_1⟩ := c2X BK177) | ((with_reducible refine gate_callee (f := 34) rfl ?_); refine gX (some 11) Tryz.func34 #[.agg #[.int .i64 a1_0, .string a1_1]] ?_; (with_reducible refine (types_Check.calls a1_0 a1_1 t178 _ A3.out).mono ?_); rintro e w22 ⟨rfl, hb⟩; refine ⟨_, rfl, ?_⟩; have n0_ := Aside0.mk (blk_below (kX BK177) hb); have n1_ := Aside0.mk (below_step (bX1 HB GE177) hb); clear BK177; clear HB; have BK177 := n0_; have HB := n1_; clear n0_ n1_; (try clear hb); (try clear hb2); (try clear hk); (try clear hi); obtain ⟨hcz23_0, hcz23_1, hfz23_0, hfz23_1⟩ := c2X BK177) | ((with_reducible refine gate_callee (f := 36) rfl ?_); refine gX (some 19) Tryz.func36 #[.pointer (some ⟨G_, 0, none⟩), .string a1_1] ?_; (with_reducible refine (hier_World_ByName.calls G_ a0 a1_1 t179 t180 _ ?side1 A5.out).mono ?_); (case side1 => repeat (first | (with_reducible exact HQa0.out) | (with_reducible refine WOK.alloc ?_ _) | (with_reducible refine WOK.drewN ?_ _) | (with_reducible refine WOK.drew ?_) | exact WOK.below HQa0.out HB.out | exact WOK.below HQa0.out (bX1 HB GE177))); rintro e w24 ⟨rfl, hb⟩; refine ⟨_, rfl, ?_⟩; have n0_ := Aside0.mk (blk_below (kX BK177) hb); have n1_ := Aside0.mk (below_step (bX1 HB GE177) hb); clear BK177; clear HB; have BK177 := n0_; have HB := n1_; clear n0_ n1_; (try clear hb); (try clear hb2); (try clear hk); (try clear hi); obtain ⟨hcz25_0, hcz25_1, hfz25_0, hfz25_1⟩ := c2X BK177)); go_ret
    exact ⟨by first | rfl | (simp [errW_none, errW_some] <;> rfl) | (simp [*, errW_none, errW_some] <;> rfl), bX1 HB GE177⟩
 ·rw [if_neg c4] at H
  have c4b0 : (t178 == 0) = false := beq_eq_false_iff_ne.mpr c4; have c4b1 : (t178 != 0) = true := bne_iff_ne.mpr c4; obtain rfl := Option.some.inj H; go_enter Tryz.func20, Tryz.ntmps20; go_wp2_with (first | ((with_reducible refine gate_dst (N := 3) rfl ?_); refine eX 3 #[.int .i64 a1_0, .string a1_1] 31 ?_; intro gb177 hg w26 hbox hb; have n0_ := Aside0.mk (below_step (bX HB) hb); have n1_ := Aside0.mk (hbox); have n2_ := Aside0.mk ((by rw [hg]; exact (below_size (bX HB)) : w.heap.size ≤ gb177)); have n3_ := Aside0.mk ((by rw [hg]; exact (below_size (bX HB)) : w.heap.size ≤ gb177)); clear HB; have HB := n0_; have BK177 := n1_; have GW177 := n2_; have GE177 := n3_; clear n0_ n1_ n2_ n3_; clear hb hbox hg; obtain ⟨hcz27_0, hcz27_1, hfz27_0, hfz27_1⟩ := c2X BK177) | ((with_reducible refine gate_callee (f := 34) rfl ?_); refine gX (some 11) Tryz.func34 #[.agg #[.int .i64 a1_0, .string a1_1]] ?_; (with_reducible refine (types_Check.calls a1_0 a1_1 t178 _ A3.out).mono ?_); rintro e w28 ⟨rfl, hb⟩; refine ⟨_, rfl, ?_⟩; have n0_ := Aside0.mk (blk_below (kX BK177) hb); have n1_ := Aside0.mk (below_step (bX1 HB GE177) hb); clear BK177; clear HB; have BK177 := n0_; have HB := n1_; clear n0_ n1_; (try clear hb); (try clear hb2); (try clear hk); (try clear hi))); go_ret
  exact ⟨by first | rfl | (simp [errW_none, errW_some] <;> rfl) | (simp [*, errW_none, errW_some] <;> rfl), bX1 HB GE177⟩
end Go.Proofs.YtlmpoiohbelkjaaGreatDoor.Pt

namespace Go.Proofs.YtlmpoiohbelkjaaGreatDoor.Pt
open Go Go.RowKit Go.Proofs.YtlmpoiohbelkjaaGreatDoor.Nm Go.Proofs.YtlmpoiohbelkjaaGreatDoor.Ty Go.Proofs.YtlmpoiohbelkjaaGreatDoor.Hi Go.Proofs.YtlmpoiohbelkjaaGreatDoorW.PrintWords Go.Proofs.YtlmpoiohbelkjaaGreatDoorW.PrintLast Go.Proofs.YtlmpoiohbelkjaaGreatDoorW.PrintMore
set_option linter.unusedVariables false
set_option linter.unusedSimpArgs false
set_option maxRecDepth 100000
set_option maxHeartbeats 2000000
theorem loaded_int (es : List Ent) : arrays_Loaded.f es 0 ⟨#[]⟩ = some 0 := by
 have h : (⟨#[]⟩ : ByteArray).toList = [] := by rw [ByteArray.toList_eq]
 unfold arrays_Loaded.f types_Check.f hier_World_ByName.f; simp only [Option.bind_some]; rw [if_pos (show chk 0 (⟨#[]⟩ : ByteArray).data.toList = 0 by decide), if_pos (show (⟨#[]⟩ : ByteArray).size ≤ 9223372036854775807 by decide), Option.bind_some, if_pos h]
theorem array_first (base gl g gh : Nat) (w : World) (es : List Ent) (hq : WOK w g es) (h : HIn w base gh gl g (.slice none 0 0) [] 0) (hbg : base ≤ gh) :
  Calls Tryz.prog 7 #[.pointer (some ⟨gh, 0, none⟩), .agg #[.int .i64 0, .string ⟨#[]⟩], .int .i64 3] w fun e w' => e = .returned (.tuple #[.int .i64 1, .int .i64 0]) ∧ ∃ v', HIn w' base gh gl g v' [⟨⟨1, ⟨#[]⟩⟩, List.replicate 3 ⟨false, 0⟩⟩] 3 ∧ Below base w w' := by
 have H := Lib.hid h; have hgw : gh < w.heap.size := blk_lt H.out.head
 have hbw : base ≤ w.heap.size := by omega
 have AO : Hid (∀ W : World, Calls Tryz.prog 19 #[.agg #[.int .i64 0, .string ⟨#[]⟩]] W fun e w' => e = .returned (.tuple #[.agg #[.int .i64 1, .string ⟨#[]⟩], .int .i64 0]) ∧ Below W.heap.size W w') := Lib.hid (fun W => by
  have := arrayof_any 0 [] W trivial; rw [show arrT 0 [] = (1, [], 0) by decide] at this
  exact this)
 have LD := Lib.hid (fun (W : World) (hb : Below w.heap.size w W) => arrays_Loaded.calls g es 0 ⟨#[]⟩ 0 W (hq.below hb) (loaded_int es))
 have FU : Hid (∀ W : World, Below w.heap.size w W → Calls Tryz.prog 18 #[.pointer (some ⟨gh, 0, none⟩), .int .i64 1, .int .i64 3] W fun e w' => e = .returned (.bool false) ∧ w' = W) := Lib.hid (fun W hb => by
  have := hp_full_any (H.out.below hb) (by decide) (by decide) (by decide) 1 3; rw [show fullF ([] : List HObj).length 0 1 3 = false by decide] at this
  exact this)
 have LY : Hid (∀ W : World, Below w.heap.size w W → Calls Tryz.prog 21 #[.pointer (some ⟨gh, 0, none⟩), .agg #[.int .i64 1, .string ⟨#[]⟩], .int .i64 3] W fun e w' => e = .returned (.int .i64 1) ∧ (∃ v', HIn w' base gh gl g v' [⟨⟨1, ⟨#[]⟩⟩, List.replicate 3 ⟨false, 0⟩⟩] 3) ∧ Below base W w') := Lib.hid (fun W hb => by
  have := lay_any base gh gl g _ [] 0 1 ⟨#[]⟩ 3 W (H.out.below hb) hbg (by decide) (by decide) (by decide) (by decide); rw [show refsF 1 ⟨#[]⟩ = false by (unfold refsF; rw [ByteArray.toList_eq]; rfl)] at this
  exact this)
 clear h hq; have hB0 := Lib.hid (below_alloc (Below.refl w.heap.size w) (.cells #[.int .i64 0, .string ⟨#[]⟩] 31)); have T0 := Lib.hid (blk_new w (.cells #[.int .i64 0, .string ⟨#[]⟩] 31)); have t0 : (w.alloc (.cells #[.int .i64 0, .string ⟨#[]⟩] 31)).cell? ⟨w.heap.size, 0, none⟩ = some (.int .i64 0) := (blk_cell T0.out 0).trans rfl; have t1 : (w.alloc (.cells #[.int .i64 0, .string ⟨#[]⟩] 31)).cell? ⟨w.heap.size, 1, none⟩ = some (.string ⟨#[]⟩) := (blk_cell T0.out 1).trans rfl; go_enter Tryz.func7, Tryz.ntmps7
 go_upto_region 6 with (go_at_call 19; refine (AO.out _).mono ?_; rintro e w2 ⟨rfl, hb2⟩; replace hb2 := Lib.hid hb2)
 have Z8 := Lib.hid (blk_new w2 (.cells #[.int .i64 1, .string ⟨#[]⟩] 31)); have hb3 : Hid (Below w.heap.size w (w2.alloc (.cells #[.int .i64 1, .string ⟨#[]⟩] 31))) := Lib.hid (below_alloc (hB0.out.trans (hb2.out.mono hB0.out.size)) _); have T3 : Hid ((w2.alloc (.cells #[.int .i64 1, .string ⟨#[]⟩] 31)).heap[w.heap.size]? = some (.cells #[.int .i64 0, .string ⟨#[]⟩] 31 (0, 0))) := Lib.hid (blk_below (blk_below T0.out hb2.out) (below_alloc (Below.refl _ _) _)); generalize w2.alloc (.cells #[.int .i64 1, .string ⟨#[]⟩] 31) = w3 at *; generalize w2.heap.size = b8 at *; clear hb2 hB0 T0 AO t0 t1; have s0 : w3.drew.cell? ⟨w.heap.size, 0, none⟩ = some (.int .i64 0) := (blk_cell T3.out 0).trans rfl; have s1 : w3.drew.cell? ⟨w.heap.size, 1, none⟩ = some (.string ⟨#[]⟩) := (blk_cell T3.out 1).trans rfl; have s2 : w3.drew.cell? ⟨gh, 1, none⟩ = some (.pointer (some ⟨g, 0, none⟩)) := (blk_cell (blk_below H.out.head hb3.out) 1).trans rfl; go_upto_region 6 with fail
 go_region_with (go_at_call 20; refine (LD.out _ (hb3.out.trans ((below_drew1 (Below.refl _ _)).mono hb3.out.size))).mono ?_; rintro e w4 ⟨rfl, hb4⟩; have hb5 : Hid (Below w3.heap.size w3 w4) := Lib.hid ⟨hb4.os, hb4.tape, hb4.output, hb4.size, hb4.block⟩; clear hb4)
 all_goals have hb6 := Lib.hid (hb3.out.trans (hb5.out.mono hb3.out.size))
 all_goals have z0 : w4.cell? ⟨b8, 0, none⟩ = some (.int .i64 1) := (blk_cell (blk_below Z8.out hb5.out) 0).trans rfl
 all_goals have z1 : w4.cell? ⟨b8, 1, none⟩ = some (.string ⟨#[]⟩) := (blk_cell (blk_below Z8.out hb5.out) 1).trans rfl
 all_goals clear s0 s1 s2 T3 Z8 hb5 LD
 all_goals go_wp2_with (first
  | (go_at_call 18; refine (FU.out _ hb6.out).mono ?_; rintro e w5 ⟨rfl, rfl⟩)
  | (go_at_call 21; refine (LY.out _ hb6.out).mono ?_; rintro e w6 ⟨rfl, ⟨v', h6⟩, hb7⟩))
 all_goals go_ret2
 all_goals exact ⟨rfl, v', h6, (hb6.out.mono hbw).trans hb7⟩
theorem awake_any (w : World) : Calls Tryz.prog 4 #[] w fun e w' => e = .returned (.bool true) ∧ Below w.heap.size w w' := by
 have OP := Lib.hid (opened_any w); go_enter Tryz.func4, Tryz.ntmps4
 go_upto_region 2 with (go_at_call 15; refine OP.out.mono ?_; rintro e w1 ⟨g, gl, gh, x1, x2, x3, x4, rfl, hq, hl, hh, hgh, hb1⟩)
 have AR := Lib.hid (array_first gh gl g gh w1 newE hq (HIn.new gh gl g hh gh) (Nat.le_refl _)); replace hb1 := Lib.hid hb1; replace hl := Lib.hid hl; replace hh := Lib.hid hh; replace hq := Lib.hid hq; replace hgh := Lib.hid hgh; clear OP
 go_upto_region 5 with (go_at_call 7; refine AR.out.mono ?_; rintro e w2 ⟨rfl, v', h2, hb2⟩)
 have LN := Lib.hid (hp_Len_any h2); have WD := Lib.hid (hp_Words_any h2); replace hb2 := Lib.hid hb2; clear h2 AR
 go_wp2_with (first
  | (go_at_call 13; refine LN.out.mono ?_; rintro e w3 ⟨rfl, rfl⟩)
  | (go_at_call 14; refine WD.out.mono ?_; rintro e w4 ⟨rfl, rfl⟩))
 go_ret
 exact ⟨rfl, hb1.out.trans (hb2.out.mono hgh.out)⟩
end Go.Proofs.YtlmpoiohbelkjaaGreatDoor.Pt

namespace Go.Proofs.YtlmpoiohbelkjaaGreatDoor.Pt
open Go Go.RowKit Go.Proofs.YtlmpoiohbelkjaaGreatDoor.Nm Go.Proofs.YtlmpoiohbelkjaaGreatDoor.Ty Go.Proofs.YtlmpoiohbelkjaaGreatDoor.Hi Go.Proofs.YtlmpoiohbelkjaaGreatDoorW.PrintWords Go.Proofs.YtlmpoiohbelkjaaGreatDoorW.PrintLast Go.Proofs.YtlmpoiohbelkjaaGreatDoorW.PrintMore
set_option linter.unusedVariables false
set_option linter.unusedSimpArgs false
set_option maxRecDepth 100000
set_option maxHeartbeats 2000000
theorem heapNil_any (w : World) : Calls Tryz.prog 3 #[] w fun e w' => e = .returned (.bool true) ∧ Below w.heap.size w w' := by
 have AW := Lib.hid (awake_any w); have C1 := Lib.hid (fun W => hp_New_nil W); have C2 := Lib.hid (fun W => hp_Object_nil 0 W); have C3 := Lib.hid (fun W => hp_Array_nil 0 ⟨#[]⟩ 0 W); have C4 := Lib.hid (fun v W => hp_Multi_nil 1 ⟨#[]⟩ v W); have C5 := Lib.hid (fun W => hp_TypeOf_nil 1 W); have C6 := Lib.hid (fun W => hp_Length_nil 1 W); have C7 := Lib.hid (fun W => hp_Get_nil 1 0 W); have C8 := Lib.hid (fun W => hp_Set_nil 1 0 false 0 W); have C9 := Lib.hid (fun W => hp_Len_nil W); have C0 := Lib.hid (fun W => hp_Words_nil W); go_enter Tryz.func3, Tryz.ntmps3
 go_upto_region 6 with (first
  | (go_at_call 4; refine AW.out.mono ?_; rintro e w1 ⟨rfl, hb1⟩; replace hb1 := Lib.hid hb1)
  | (go_at_call 5; refine (C1.out _).mono ?_; rintro e w2 ⟨rfl, rfl⟩)
  | (go_at_call 6; refine (C2.out _).mono ?_; rintro e w3 ⟨rfl, rfl⟩))
 go_upto_region 7 with (go_at_call 7; refine (C3.out _).mono ?_; rintro e w4 ⟨rfl, hb4⟩; replace hb4 := Lib.hid (hb1.out.trans (hb4.mono hb1.out.size)); clear hb1)
 have hb5 := Lib.hid (below_alloc hb4.out (.cells #[.int .i64 1] 3))
 go_upto_region 8 with (go_at_call 8; refine (C4.out _ _).mono ?_; rintro e w6 ⟨rfl, hb6⟩; replace hb6 := Lib.hid (hb5.out.trans (hb6.mono hb5.out.size)))
 clear hb4 hb5
 go_upto_region 9 with (go_at_call 9; refine (C5.out _).mono ?_; rintro e w7 ⟨rfl, hb7⟩; replace hb7 := Lib.hid (below_alloc (hb6.out.trans (hb7.mono hb6.out.size)) (.cells #[.int .i64 0, .string ⟨#[]⟩] 31)))
 clear hb6
 go_upto_region 11 with (first
  | (go_at_call 10; refine (C6.out _).mono ?_; rintro e w8 ⟨rfl, rfl⟩)
  | (go_at_call 11; refine (C7.out _).mono ?_; rintro e w9 ⟨rfl, hb9⟩; replace hb9 := Lib.hid (below_alloc (hb7.out.trans (hb9.mono hb7.out.size)) (.cells #[.bool false, .int .i64 0] 37))))
 clear hb7
 go_wp2_with (first
  | (go_at_call 12; refine (C8.out _).mono ?_; rintro e w10 ⟨rfl, hb10⟩; replace hb10 := Lib.hid (hb9.out.trans (hb10.mono hb9.out.size)); clear hb9)
  | (go_at_call 13; refine (C9.out _).mono ?_; rintro e w11 ⟨rfl, rfl⟩)
  | (go_at_call 14; refine (C0.out _).mono ?_; rintro e w12 ⟨rfl, rfl⟩))
 go_ret
 exact ⟨rfl, hb10.out⟩
end Go.Proofs.YtlmpoiohbelkjaaGreatDoor.Pt
