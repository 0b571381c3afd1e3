/- Lemmas and contracts for the statement of NmNamesKeeps: joined by program out of this session's texts. -/
import Derived.Test.YtajplppeijmfpaaDoorBdNmNamesKeeps1
import Derived.WalkKit
import Derived.KernelRfl
import Derived.RowKit3
import Derived.BigQuiet
import Derived.Deep.QuietTactic
import Derived.Handy
import Derived.Lib.Hide
import Derived.Maps.AppendAt
import Derived.Deep.AppendLies
import Derived.Deep.DeepCutAuto
import Derived.Lib.Split
import Derived.Lib.SplitLaws
import Derived.Lib.Join
import Derived.Lib.IndexLaws
import Derived.Lib.IndexBytes
import Derived.Shelf.Strings.Builder1
import Derived.Shelf.Strings.Builder2
import Derived.Shelf.Strings.OnBuilder
import Derived.Shelf.Strings.BuilderF
import Derived.Shelf.Strings.BuilderK
import Derived.Shelf.Utf8.RuneCount
import Derived.Shelf.Strings.Builder2Cap
import Derived.Shelf.Strings.Search1
import Derived.Shelf.Strings.Search2
import Derived.Shelf.Strings.Search3
import Derived.Shelf.Strings.Cut
import Derived.Shelf.Strings.Count
import Derived.Shelf.LaysM
import Derived.Shelf.Strings.Shaped
import Derived.Shelf.Strings.LastIndex
import Derived.Shelf.Strings.Prefix
import Derived.Shelf.Strings.Split
import Derived.Shelf.Strings.SplitShaped
import Derived.Shelf.Unicode.Decode
import Derived.Shelf.Strings.RuneCount
import Derived.Shelf.Strings.Explode
import Derived.Shelf.Bits.Mul64
import Derived.Shelf.Strings.Repeat
import Derived.Shelf.Unicode.DecodeSlow
import Derived.Shelf.Unicode.DecodeAny
import Derived.Shelf.Strings.BuilderCap
import Derived.Ground.PaProg
import Derived.Shelf.Path.Small
import Derived.Test.YtajplppeijmfpaaDoorProg
import Derived.WalkLawsBesides
import Derived.Laws.AppendOwnNone
import Derived.Laws.OwnMore
import Derived.Deep.Onto
import Derived.ArgAppend
import Derived.OwnWalk
import Derived.Below
import Derived.Deep.Draws
import Derived.Laws.BytesArg
import Derived.Laws.MakeOwn
import Derived.Deep.OwnRows
import Derived.Tactics
import Derived.Lib.ConvBytes
import Derived.Laws.Slices
import Derived.Deep.LoopGhost
import Derived.WideLaws
import Derived.Deep.CutBlock
import Derived.Deep.RegionHeld3
import Derived.Laws.Rows
import Derived.Lib.AppendStr
import Derived.Laws.IdiomCopy
import Derived.OrdersHeld
import Derived.Laws.BitsLemmas
import Derived.RowKit
import Derived.Deep.RegionWith
namespace Go.Proofs.YtajplppeijmfpaaDoor
open Go Go.RowKit
set_option linter.unusedVariables false
set_option linter.unusedSimpArgs false
theorem ret_bool {a b : Bool} (h : a = b) : Ending.returned (.bool a) = .returned (.bool b) := by rw [h]
theorem append1 {P : Program} {ops : Array Oper} {rest : List Oper} {o : Oper} {a : Act} {Q : Exit → Act → World → Prop} {W : World} (base : Nat) (hgd : o.guard = none) (s x : Operand) (t e : TypeId) (z : Value) (size bytes : Nat)
  (ho : o.op = .call { callee := .builtin .append, args := #[s, x], argTypes := #[t, t] })
  (ht : P.underlying t = some (.slice e)) (hinfo : (P.info? e).map (fun i => (i.zero, i.size, i.bytes)) = some (some z, size, bytes)) (hz : z.cells.size = size) (hsz : 0 < size)
  (v : Value) (n : Nat) (xs news : List Value) (hs : a.eval s = v) (b : Nat) (hb : b = W.heap.size) (hx : a.eval x = .slice (some ⟨b, 0, none⟩) 1 1) (hnl : news.length = size) (h1 : ∀ u ∈ news, u.oneCell' = true)
  (HO : W.ownsRow base e size v n xs) (hbase : base ≤ W.heap.size) (hl : (n + 1) * bytes ≤ 140737488355328) (hm : n + 1 ≤ 9223372036854775807)
  (h : ∀ v1 w1, w1.ownsRow base e size v1 (n + 1) (xs ++ news) → W.grownBy w1 v.ownBlock → wpList P ops Q rest (a.put o.dst v1) w1) :
  wpList P ops Q (o :: rest) a (W.alloc (.cells news.toArray e)) := by
 subst hb; obtain ⟨i0, hi, hzz⟩ := Option.map_eq_some_iff.1 hinfo; simp only [Prod.mk.injEq] at hzz; obtain ⟨hz0, hz1, hz2⟩ := hzz; refine wpList_append_own (W.alloc (.cells news.toArray e)) hgd s x t ho base e i0 z size bytes ht hi hz0 hz1 hz2 hz hsz v n xs hs (HO.alloc _) ⟨W.heap.size, 0, none⟩ 1 1 news hx (by omega) ?_ h1 (by simpa only [maxLen] using hm) hl (by simp; omega) ?_
 ·intro j u hu
  exact World.news_of_block (cs := news.toArray) (t := e) (fr := (0, 0)) (heap_alloc_new W _) j u (by simpa using hu)
 ·intro v1 w1 hown hg _
  exact h v1 w1 hown (World.grownBy.trans (World.grownBy_alloc W _ _) hg)
theorem own_base {w : World} {base : Nat} {e : TypeId} {size n : Nat} {v : Value} {xs : List Value} (h : w.ownsRow base e size v n xs) (k : Nat) (hk : v.ownBlock = some k) : base ≤ k := (h.lt k hk).1
theorem own_cell {w : World} {base g cap : Nat} {e : TypeId} {size n : Nat} {xs : List Value} (h : w.ownsRow base e size (.slice (some ⟨g, 0, none⟩) n cap) n xs) (j : Nat) (u : Value) (hu : xs[j]? = some u) : w.cell? ⟨g, j, none⟩ = some u := by
 have := h.cells (g := g) rfl j u hu; unfold Addr.add at this
 split at this <;> simp_all
theorem own_cap {w : World} {base g cap : Nat} {e : TypeId} {size n : Nat} {xs : List Value} (h : w.ownsRow base e size (.slice (some ⟨g, 0, none⟩) n cap) n xs) : n ≤ cap := by
 rcases h.2 with ⟨h', _⟩ | ⟨g', cap', cur, h', _, _, hn, _⟩
 ·cases h'
 ·injection h' with _ _ hc; omega
theorem bl_trans {w w1 w2 : World} (h : Below w.heap.size w w1) (k : Below w1.heap.size w1 w2) : Below w.heap.size w w2 := h.trans (k.mono h.size)
theorem bl_cell {w w1 : World} (h : Below w.heap.size w w1) {a : Addr} {v : Value} (hc : w.cell? a = some v) : w1.cell? a = some v := (h.cell (World.block_lt_of_cell? w a hc)).trans hc
theorem cell_new (w : World) (cs : Array Value) (t : TypeId) (j : Nat) : (w.alloc (.cells cs t)).cell? ⟨w.heap.size, j, none⟩ = cs[j]? := by
 simp only [World.cell?, heap_alloc_new]
 rfl
end Go.Proofs.YtajplppeijmfpaaDoor

namespace Go.Proofs.YtajplppeijmfpaaDoor.Nm
open Go Go.RowKit
set_option linter.unusedVariables false
set_option linter.unusedSimpArgs false
def bt (s : ByteArray) (k : Nat) : Int := ((s.data.toList.getD k 0).toNat : Int)
theorem bt_at (s : ByteArray) (k : Nat) (h : k < s.size) : ((s[k]'h).toNat : Int) = bt s k := by
 have h' : k < s.data.toList.length := by rw [Array.length_toList]; exact h
 simp only [bt, List.getD_eq_getElem?_getD, List.getElem?_eq_getElem h', Option.getD_some]
 rfl
theorem bt_range (s : ByteArray) (k : Nat) : 0 ≤ bt s k ∧ bt s k ≤ 255 := by
 unfold bt; have := (s.data.toList.getD k 0).toNat_lt
 omega
def letB (n : Int) (first : Bool) : Bool :=
 decide (97 ≤ n ∧ n ≤ 122) || decide (65 ≤ n ∧ n ≤ 90) || n == 95 || n == 36 || (!first && decide (48 ≤ n ∧ n ≤ 57))
def lets (s : ByteArray) (k : Nat) : Bool := (List.range k).all fun j => letB (bt s j) ((j : Int) == 0)
theorem lets_succ (s : ByteArray) (k : Nat) : lets s (k + 1) = (lets s k && letB (bt s k) ((k : Int) == 0)) := by simp [lets, List.range_succ]
theorem lets_false (s : ByteArray) (k m : Nat) (hk : k < m) (h : letB (bt s k) ((k : Int) == 0) = false) : lets s m = false := by
 unfold lets; rw [List.all_eq_false]
 exact ⟨k, by simp [hk], by simp [h]⟩
def partB (s : ByteArray) : Bool := lets s s.size && !s.toList.isEmpty
def partsB (s : ByteArray) : List ByteArray := Lib.splitB ⟨#[47]⟩ 0 (Lib.countB s ⟨#[47]⟩) s
theorem partsB_len (s : ByteArray) : (partsB s).length = Lib.countB s ⟨#[47]⟩ + 1 := Lib.splitB_all ⟨#[47]⟩ (by decide) 0 _ s rfl
theorem partsB_le (s : ByteArray) : (partsB s).length ≤ s.size + 1 := by
 rw [partsB_len]; have := Lib.countB_le ⟨#[47]⟩ (by decide) s.size s (Nat.le_refl _)
 omega
def validB (s : ByteArray) : Bool := decide (s.size ≤ 60) && (partsB s).all partB
theorem badFrom_all (l : List ByteArray) (k : Nat) (h : ∀ j, j < k → ∀ x, l[j]? = some x → partB x = true) (hk : l.length ≤ k) : l.all partB = true := by
 rw [List.all_eq_true]; intro x hx; obtain ⟨j, hj, e⟩ := List.mem_iff_getElem.1 hx
 exact h j (by omega) x (by rw [List.getElem?_eq_getElem hj, e])
theorem bad_at (l : List ByteArray) (k : Nat) (x : ByteArray) (hx : l[k]? = some x) (h : partB x = false) : l.all partB = false := by
 rw [List.all_eq_false]
 exact ⟨x, List.mem_of_getElem? hx, by simp [h]⟩
end Go.Proofs.YtajplppeijmfpaaDoor.Nm

namespace Go.Proofs.YtajplppeijmfpaaDoor.Nm
open Go Go.RowKit
set_option linter.unusedVariables false
set_option linter.unusedSimpArgs false
def cutAt (c : UInt8) : List UInt8 → List (List UInt8)
 | [] => [[]]
 | b :: r => if b = c then [] :: cutAt c r else match cutAt c r with
  | [] => [[b]]
  | p :: ps => (b :: p) :: ps
theorem cutAt_ne (c : UInt8) (l : List UInt8) : cutAt c l ≠ [] := by
 cases l with
 | nil => simp [cutAt]
 | cons b r =>
  unfold cutAt
  split
  ·simp
  ·split <;> simp
theorem cutAt_snoc (c : UInt8) (l : List UInt8) (b : UInt8) (L : List (List UInt8)) (P : List UInt8) (h : cutAt c l = L ++ [P]) :
  cutAt c (l ++ [b]) = if b = c then L ++ [P] ++ [[]] else L ++ [P ++ [b]] := by
 induction l generalizing L P with
 | nil =>
  simp only [cutAt] at h
  have : L = [] ∧ P = [] := by
   cases L with
   | nil => simpa using h.symm
   | cons x L => simp at h
  obtain ⟨rfl, rfl⟩ := this
  by_cases hb : b = c <;> simp [cutAt, hb]
 | cons a r ih =>
  rw [List.cons_append]; unfold cutAt; unfold cutAt at h
  by_cases ha : a = c
  ·rw [if_pos ha] at h ⊢
   cases L with
   | nil => simp at h; exact absurd h.2 (cutAt_ne c r)
   | cons x L =>
    simp only [List.cons_append, List.cons.injEq] at h; obtain ⟨rfl, h⟩ := h; rw [ih L P h]
    split <;> simp
  ·rw [if_neg ha] at h ⊢
   cases hr : cutAt c r with
   | nil => exact absurd hr (cutAt_ne c r)
   | cons p ps =>
    rw [hr] at h; simp only at h
    cases L with
    | nil =>
     simp only [List.nil_append, List.cons.injEq] at h; obtain ⟨rfl, rfl⟩ := h; have := ih [] p (by simpa using hr); rw [this]
     by_cases hb : b = c <;> simp [hb]
    | cons x L =>
     simp only [List.cons_append, List.cons.injEq] at h; obtain ⟨rfl, rfl⟩ := h; have := ih (p :: L) P (by simpa using hr); rw [this]
     by_cases hb : b = c <;> simp [hb]
theorem splitK_miss (c : UInt8) (k : Nat) (s : List UInt8) (h : Lib.index s [c] = -1) : Lib.splitK [c] 0 k s = [s] := by
 cases k with
 | zero => rfl
 | succ k => rw [Lib.splitK, if_pos (by simp [h])]
theorem splitK_hit (c : UInt8) (k : Nat) (s : List UInt8) (i : Nat) (h : Lib.index s [c] = i) : Lib.splitK [c] 0 (k + 1) s = s.take i :: Lib.splitK [c] 0 k (s.drop (i + 1)) := by
 rw [Lib.splitK, if_neg (by simp [h]), h]; simp
theorem index_cons (c b : UInt8) (l : List UInt8) : Lib.index (b :: l) [c] = if b = c then 0 else if Lib.index l [c] = -1 then -1 else Lib.index l [c] + 1 := by
 rw [Lib.index]
 by_cases h : b = c
 ·subst h; simp [List.isPrefixOf]
 ·have : ¬ c = b := fun e => h e.symm
  simp [List.isPrefixOf, h, this]
theorem splitK_cut (c : UInt8) : ∀ s : List UInt8, Lib.splitK [c] 0 (Lib.count s [c]) s = cutAt c s := by
 intro s
 induction s with
 | nil =>
  rw [splitK_miss c _ [] (by simp [Lib.index])]
  rfl
 | cons b l ih =>
  unfold cutAt
  by_cases hb : b = c
  ·subst hb
   rw [if_pos rfl, Lib.count_cons_eq, Nat.add_comm, splitK_hit b _ _ 0 (by rw [index_cons, if_pos rfl]; rfl)]; simp [ih]
  ·rw [if_neg hb, Lib.count_cons_ne b c l hb, ← ih]
   by_cases hm : Lib.index l [c] = -1
   ·rw [splitK_miss c _ l hm, splitK_miss c _ (b :: l) (by rw [index_cons, if_neg hb, if_pos hm])]
   ·have hge := Lib.index_ge l [c]
    obtain ⟨i, hi⟩ : ∃ i : Nat, Lib.index l [c] = i := ⟨(Lib.index l [c]).toNat, by omega⟩
    have hpos : Lib.count l [c] ≠ 0 := by
     rw [Lib.count_one]
     have h1 : Lib.indexByte l c = (i : Int) := by rw [← Lib.index_one]; exact hi
     have h2 := (Lib.indexByte_some h1).1; have h3 : c ∈ l := List.mem_of_getElem? h2; have := List.count_pos_iff.2 h3
     omega
    obtain ⟨k, hk⟩ : ∃ k, Lib.count l [c] = k + 1 := ⟨Lib.count l [c] - 1, by omega⟩
    rw [hk, splitK_hit c k l i hi, splitK_hit c k (b :: l) (i + 1) (by rw [index_cons, if_neg hb, if_neg hm, hi]; simp)]; simp
theorem partsB_data (s : ByteArray) : (partsB s).map (·.data.toList) = cutAt 47 s.data.toList := by
 unfold partsB; rw [Lib.splitB_data, ← splitK_cut]
def rparts (s : ByteArray) : Nat → List ByteArray × Nat
 | 0 => ([], 0)
 | k + 1 => if bt s k = 47 then ((rparts s k).1 ++ [s.extract (rparts s k).2 k], k + 1) else rparts s k
theorem rparts_succ (s : ByteArray) (k : Nat) : rparts s (k + 1) = if bt s k = 47 then ((rparts s k).1 ++ [s.extract (rparts s k).2 k], k + 1) else rparts s k := rfl
theorem rparts_le (s : ByteArray) (k : Nat) : (rparts s k).2 ≤ k ∧ (rparts s k).1.length ≤ k := by
 induction k with
 | zero => simp [rparts]
 | succ k ih =>
  unfold rparts
  split
  ·simp; omega
  ·omega
theorem ex_data (s : ByteArray) (i j : Nat) : (s.extract i j).data.toList = (s.data.toList.take j).drop i := by
 rw [Lib.extract_data]; simp [List.drop_take]
theorem rparts_cut (s : ByteArray) (k : Nat) (hk : k ≤ s.size) :
  cutAt 47 (s.data.toList.take k) = (rparts s k).1.map (·.data.toList) ++ [(s.extract (rparts s k).2 k).data.toList] := by
 induction k with
 | zero => simp [rparts, cutAt]
 | succ k ih =>
  have ih := ih (by omega)
  have hlen : k < s.data.toList.length := by rw [Array.length_toList]; exact hk
  have hle := (rparts_le s k).1
  have hbt : bt s k = 47 ↔ s.data.toList[k] = 47 := by
   unfold bt; rw [List.getD_eq_getElem?_getD, List.getElem?_eq_getElem hlen, Option.getD_some]
   constructor
   ·intro h
    apply UInt8.toNat_inj.1
    have : (47 : UInt8).toNat = 47 := rfl
    omega
   ·intro h; rw [h]; rfl
  rw [List.take_succ_eq_append_getElem hlen, cutAt_snoc 47 _ _ _ _ ih]; rw [rparts_succ]
  by_cases h : bt s k = 47
  ·rw [if_pos h, if_pos (hbt.1 h), List.map_append, ex_data s (k + 1) (k + 1)]
   simp
  ·rw [if_neg h, if_neg (fun e => h (hbt.2 e)), ex_data, ex_data, List.take_succ_eq_append_getElem hlen, List.drop_append_of_le_length (by rw [List.length_take]; omega)]
theorem bytes_inj {a b : ByteArray} (h : a.data.toList = b.data.toList) : a = b := by
 apply ByteArray.ext
 exact Array.toList_inj.1 h
theorem map_inj : ∀ {l m : List ByteArray}, l.map (·.data.toList) = m.map (·.data.toList) → l = m
 | [], [], _ => rfl
 | [], _ :: _, h => by simp at h
 | _ :: _, [], h => by simp at h
 | a :: l, b :: m, h => by
  simp only [List.map_cons, List.cons.injEq] at h; rw [bytes_inj h.1, map_inj h.2]
theorem rparts_all (s : ByteArray) : (rparts s s.size).1 ++ [s.extract (rparts s s.size).2 s.size] = partsB s := by
 apply map_inj
 rw [partsB_data, List.map_append]; have := rparts_cut s s.size (Nat.le_refl _); rw [List.take_of_length_le (by rw [Array.length_toList]; exact Nat.le_refl _)] at this; rw [this]
 rfl
theorem cutAt_len (c : UInt8) (l p : List UInt8) (h : p ∈ cutAt c l) : p.length ≤ l.length := by
 induction l generalizing p with
 | nil => simp [cutAt] at h; simp [h]
 | cons b r ih =>
  unfold cutAt at h
  split at h
  ·rcases List.mem_cons.1 h with rfl | h
   ·simp
   ·have := ih p h; simp only [List.length_cons]; omega
  ·split at h
   ·rename_i e; exact absurd e (cutAt_ne c r)
   ·rename_i q qs e
    rcases List.mem_cons.1 h with rfl | h
    ·have := ih q (by rw [e]; simp); simp only [List.length_cons]; omega
    ·have := ih p (by rw [e]; simp [h]); simp only [List.length_cons]; omega
theorem partsB_size (s x : ByteArray) (hx : x ∈ partsB s) : x.size ≤ s.size := by
 have h : x.data.toList ∈ cutAt 47 s.data.toList := by rw [← partsB_data]; exact List.mem_map_of_mem hx
 have := cutAt_len _ _ _ h; rw [Array.length_toList, Array.length_toList] at this
 exact this
end Go.Proofs.YtajplppeijmfpaaDoor.Nm

namespace Go.Proofs
open Go.Shelf
def Tryd.lays156_ren : Go.Shelf.Ren := ⟨fun | 156 => 45 | 165 => 67 | 166 => 52 | 169 => 55 | 240 => 71 | 241 => 79 | 276 => 83 | 277 => 88 | n => n, fun | 31 => 32 | 9 => 9 | 3 => 3 | 4 => 4 | 0 => 0 | 20 => 20 | 72 => 67 | 76 => 72 | 70 => 64 | 37 => 65 | 75 => 70 | 127 => 100 | 164 => 108 | 5 => 5 | 80 => 76 | n => n, fun | n => n⟩
theorem Tryd.lays156 : Go.Proofs.Lays.n156 Tryd.prog Tryd.lays156_ren := {
 mixed := by kernel_rfl
 f156 := Tryd.func45.trans (congrArg some (by kernel_rfl))
 f165 := Tryd.func67.trans (congrArg some (by kernel_rfl))
 f166 := Tryd.func52.trans (congrArg some (by kernel_rfl))
 f169 := Tryd.func55.trans (congrArg some (by kernel_rfl))
 f240 := Tryd.func71.trans (congrArg some (by kernel_rfl))
 f241 := Tryd.func79.trans (congrArg some (by kernel_rfl))
 f276 := Tryd.func83.trans (congrArg some (by kernel_rfl))
 f277 := Tryd.func88.trans (congrArg some (by kernel_rfl))
 t0 := Tryd.underlying0
 a0 := Tryd.isAgg0
 z0 := Tryd.sizeOf0
 v0 := Tryd.zeroValue0
 t3 := Tryd.underlying3
 a3 := Tryd.isAgg3
 z3 := Tryd.sizeOf3
 v3 := Tryd.zeroValue3
 t4 := Tryd.underlying4
 a4 := Tryd.isAgg4
 z4 := Tryd.sizeOf4
 v4 := Tryd.zeroValue4
 t9 := Tryd.underlying9
 a9 := Tryd.isAgg9
 z9 := Tryd.sizeOf9
 v9 := Tryd.zeroValue9
 t20 := Tryd.underlying20
 a20 := Tryd.isAgg20
 z20 := Tryd.sizeOf20
 v20 := Tryd.zeroValue20
 t31 := Tryd.underlying32
 a31 := Tryd.isAgg32
 z31 := Tryd.sizeOf32
 v31 := Tryd.zeroValue32
 t37 := Tryd.underlying65
 a37 := Tryd.isAgg65
 z37 := Tryd.sizeOf65
 v37 := Tryd.zeroValue65
 t70 := Tryd.underlying64
 a70 := Tryd.isAgg64
 z70 := Tryd.sizeOf64
 v70 := Tryd.zeroValue64
 t72 := Tryd.underlying67
 a72 := Tryd.isAgg67
 z72 := Tryd.sizeOf67
 v72 := Tryd.zeroValue67
 t75 := Tryd.underlying70
 a75 := Tryd.isAgg70
 z75 := Tryd.sizeOf70
 v75 := Tryd.zeroValue70
 t76 := Tryd.underlying72
 a76 := Tryd.isAgg72
 z76 := Tryd.sizeOf72
 v76 := Tryd.zeroValue72
 t127 := Tryd.underlying100
 a127 := Tryd.isAgg100
 z127 := Tryd.sizeOf100
 v127 := Tryd.zeroValue100
 t164 := Tryd.underlying108
 a164 := Tryd.isAgg108
 z164 := Tryd.sizeOf108
 v164 := Tryd.zeroValue108 }
theorem Tryd.Builder_Extra_156 : Builder.Extra Tryd.prog Tryd.lays156_ren := {
 sizeBuilder := by kernel_rfl
 liesBuilder := by kernel_rfl
 t5 := Tryd.underlying5
 a5 := Tryd.isAgg5
 z5 := Tryd.sizeOf5
 v5 := Tryd.zeroValue5
 infoByte := by kernel_rfl
 cellsByte := by kernel_rfl
 sizeByte := by kernel_rfl
 neB5 := by decide }
open Go.RowKit in
theorem Tryd.strings_Join_none (a : Option Addr) (c : Nat) (sep : ByteArray) (w : World) :
 Calls Tryd.prog 45 #[.slice a 0 c, .string sep] w fun e w' => e = .returned (.string ⟨#[]⟩) ∧ w' = w := Any.strings_Join_none Tryd.lays156 Tryd.Builder_Extra_156 a c sep w
open Go.RowKit in
theorem Tryd.strings_Join (bk o c : Nat) (xs : List ByteArray) (sep : ByteArray) (w : World) (hcells : ∀ (j : Nat) x, xs[j]? = some x → w.cell? ⟨bk, o + j, none⟩ = some (.string x)) (hbk : bk < w.heap.size) (hN : xs.length ≤ 140737488355328) (hcap : xs.length ≤ c) (hlen : (Lib.join (xs.map (·.data.toList)) sep.data.toList).length ≤ 140737488355328) :
 Calls Tryd.prog 45 #[.slice (some ⟨bk, o, none⟩) xs.length c, .string sep] w fun e w' => e = .returned (.string ⟨(Lib.join (xs.map (·.data.toList)) sep.data.toList).toArray⟩) ∧ Below w.heap.size w w' := Any.strings_Join Tryd.lays156 Tryd.Builder_Extra_156 bk o c xs sep w hcells hbk hN hcap hlen
def Tryd.lays143_ren : Go.Shelf.Ren := ⟨fun | 143 => 82 | 219 => 91 | 217 => 95 | 225 => 96 | 224 => 97 | 267 => 98 | 266 => 99 | 314 => 100 | n => n, fun | 9 => 9 | 3 => 3 | 4 => 4 | 5 => 5 | 46 => 110 | 146 => 118 | 51 => 117 | n => n, fun | 1 => 0 | n => n⟩
theorem Tryd.lays143 : Go.Proofs.Lays.n143 Tryd.prog Tryd.lays143_ren := {
 mixed := by kernel_rfl
 f143 := Tryd.func82.trans (congrArg some (by kernel_rfl))
 f217 := Tryd.func95.trans (congrArg some (by kernel_rfl))
 f219 := Tryd.func91.trans (congrArg some (by kernel_rfl))
 f224 := Tryd.func97.trans (congrArg some (by kernel_rfl))
 f225 := Tryd.func96.trans (congrArg some (by kernel_rfl))
 f266 := Tryd.func99.trans (congrArg some (by kernel_rfl))
 f267 := Tryd.func98.trans (congrArg some (by kernel_rfl))
 f314 := Tryd.func100.trans (congrArg some (by kernel_rfl))
 t3 := Tryd.underlying3
 a3 := Tryd.isAgg3
 z3 := Tryd.sizeOf3
 v3 := Tryd.zeroValue3
 t4 := Tryd.underlying4
 a4 := Tryd.isAgg4
 z4 := Tryd.sizeOf4
 v4 := Tryd.zeroValue4
 t5 := Tryd.underlying5
 a5 := Tryd.isAgg5
 z5 := Tryd.sizeOf5
 v5 := Tryd.zeroValue5
 t9 := Tryd.underlying9
 a9 := Tryd.isAgg9
 z9 := Tryd.sizeOf9
 v9 := Tryd.zeroValue9
 t46 := Tryd.underlying110
 a46 := Tryd.isAgg110
 z46 := Tryd.sizeOf110
 v46 := Tryd.zeroValue110
 t51 := Tryd.underlying117
 a51 := Tryd.isAgg117
 z51 := Tryd.sizeOf117
 v51 := Tryd.zeroValue117
 t146 := Tryd.underlying118
 a146 := Tryd.isAgg118
 z146 := Tryd.sizeOf118
 v146 := Tryd.zeroValue118
 g1 := by kernel_rfl }
open Go.RowKit Go.Lib in
theorem Tryd.strings_Index_one (s : ByteArray) (c : UInt8) (w : World) :
 Calls Tryd.prog 82 #[.string s, .string ⟨#[c]⟩] w fun e w' => e = .returned (.int .i64 (Lib.indexByte s.data.toList c)) ∧ w' = w := Any.strings_Index_one Tryd.lays143 s c w
def Tryd.lays138_ren : Go.Shelf.Ren := ⟨fun | 138 => 81 | 195 => 89 | 218 => 90 | 143 => 82 | 219 => 91 | 217 => 95 | 225 => 96 | 224 => 97 | 267 => 98 | 266 => 99 | 314 => 100 | n => n, fun | 9 => 9 | 3 => 3 | 4 => 4 | 5 => 5 | 0 => 0 | 46 => 110 | 146 => 118 | 51 => 117 | n => n, fun | 1 => 0 | n => n⟩
theorem Tryd.lays138 : Go.Proofs.Lays.n138 Tryd.prog Tryd.lays138_ren := {
 mixed := by kernel_rfl
 f138 := Tryd.func81.trans (congrArg some (by kernel_rfl))
 f143 := Tryd.func82.trans (congrArg some (by kernel_rfl))
 f195 := Tryd.func89.trans (congrArg some (by kernel_rfl))
 f217 := Tryd.func95.trans (congrArg some (by kernel_rfl))
 f218 := Tryd.func90.trans (congrArg some (by kernel_rfl))
 f219 := Tryd.func91.trans (congrArg some (by kernel_rfl))
 f224 := Tryd.func97.trans (congrArg some (by kernel_rfl))
 f225 := Tryd.func96.trans (congrArg some (by kernel_rfl))
 f266 := Tryd.func99.trans (congrArg some (by kernel_rfl))
 f267 := Tryd.func98.trans (congrArg some (by kernel_rfl))
 f314 := Tryd.func100.trans (congrArg some (by kernel_rfl))
 t0 := Tryd.underlying0
 a0 := Tryd.isAgg0
 z0 := Tryd.sizeOf0
 v0 := Tryd.zeroValue0
 t3 := Tryd.underlying3
 a3 := Tryd.isAgg3
 z3 := Tryd.sizeOf3
 v3 := Tryd.zeroValue3
 t4 := Tryd.underlying4
 a4 := Tryd.isAgg4
 z4 := Tryd.sizeOf4
 v4 := Tryd.zeroValue4
 t5 := Tryd.underlying5
 a5 := Tryd.isAgg5
 z5 := Tryd.sizeOf5
 v5 := Tryd.zeroValue5
 t9 := Tryd.underlying9
 a9 := Tryd.isAgg9
 z9 := Tryd.sizeOf9
 v9 := Tryd.zeroValue9
 t46 := Tryd.underlying110
 a46 := Tryd.isAgg110
 z46 := Tryd.sizeOf110
 v46 := Tryd.zeroValue110
 t51 := Tryd.underlying117
 a51 := Tryd.isAgg117
 z51 := Tryd.sizeOf117
 v51 := Tryd.zeroValue117
 t146 := Tryd.underlying118
 a146 := Tryd.isAgg118
 z146 := Tryd.sizeOf118
 v146 := Tryd.zeroValue118
 g1 := by kernel_rfl }
open Go.RowKit Go.Lib in
theorem Tryd.strings_Count_one (s : ByteArray) (c : UInt8) (w : World) :
 Calls Tryd.prog 81 #[.string s, .string ⟨#[c]⟩] w fun e w' => e = .returned (.int .i64 (Lib.countByte s.data.toList c)) ∧ w' = w := Any.strings_Count_one Tryd.lays138 s c w
def Tryd.lays149_ren : Go.Shelf.Ren := ⟨fun | 149 => 66 | 222 => 78 | n => n, fun | 9 => 9 | 5 => 5 | 3 => 3 | 4 => 4 | n => n, fun | n => n⟩
theorem Tryd.lays149 : Go.Proofs.Lays.n149 Tryd.prog Tryd.lays149_ren := {
 mixed := by kernel_rfl
 f149 := Tryd.func66.trans (congrArg some (by kernel_rfl))
 f222 := Tryd.func78.trans (congrArg some (by kernel_rfl))
 t3 := Tryd.underlying3
 a3 := Tryd.isAgg3
 z3 := Tryd.sizeOf3
 v3 := Tryd.zeroValue3
 t4 := Tryd.underlying4
 a4 := Tryd.isAgg4
 z4 := Tryd.sizeOf4
 v4 := Tryd.zeroValue4
 t5 := Tryd.underlying5
 a5 := Tryd.isAgg5
 z5 := Tryd.sizeOf5
 v5 := Tryd.zeroValue5
 t9 := Tryd.underlying9
 a9 := Tryd.isAgg9
 z9 := Tryd.sizeOf9
 v9 := Tryd.zeroValue9 }
open Go.RowKit Go.Lib in
theorem Tryd.strings_LastIndexByte (s : ByteArray) (c : Int) (hs : s.size < 4611686018427387904) (w : World) :
 Calls Tryd.prog 66 #[.string s, .int .u8 c] w fun e w' => e = .returned (.int .i64 (Lib.lastIndexByte s c)) ∧ w' = w := Any.strings_LastIndexByte Tryd.lays149 s c hs w
def Tryd.lays146_ren : Go.Shelf.Ren := ⟨fun | 146 => 49 | 221 => 70 | 268 => 80 | 138 => 81 | 143 => 82 | 195 => 89 | 197 => 87 | 218 => 90 | 219 => 91 | 260 => 94 | 217 => 95 | 225 => 96 | 224 => 97 | 267 => 98 | 266 => 99 | 314 => 100 | n => n, fun | 9 => 9 | 31 => 32 | 3 => 3 | 4 => 4 | 0 => 0 | 105 => 113 | 21 => 21 | 5 => 5 | 46 => 110 | 119 => 124 | 139 => 127 | 138 => 126 | 146 => 118 | 51 => 117 | n => n, fun | 1 => 0 | 3 => 1 | 4 => 2 | n => n⟩
theorem Tryd.lays146 : Go.Proofs.Lays.n146 Tryd.prog Tryd.lays146_ren := {
 mixed := by kernel_rfl
 f138 := Tryd.func81.trans (congrArg some (by kernel_rfl))
 f143 := Tryd.func82.trans (congrArg some (by kernel_rfl))
 f146 := Tryd.func49.trans (congrArg some (by kernel_rfl))
 f195 := Tryd.func89.trans (congrArg some (by kernel_rfl))
 f197 := Tryd.func87.trans (congrArg some (by kernel_rfl))
 f217 := Tryd.func95.trans (congrArg some (by kernel_rfl))
 f218 := Tryd.func90.trans (congrArg some (by kernel_rfl))
 f219 := Tryd.func91.trans (congrArg some (by kernel_rfl))
 f221 := Tryd.func70.trans (congrArg some (by kernel_rfl))
 f224 := Tryd.func97.trans (congrArg some (by kernel_rfl))
 f225 := Tryd.func96.trans (congrArg some (by kernel_rfl))
 f260 := Tryd.func94.trans (congrArg some (by kernel_rfl))
 f266 := Tryd.func99.trans (congrArg some (by kernel_rfl))
 f267 := Tryd.func98.trans (congrArg some (by kernel_rfl))
 f268 := Tryd.func80.trans (congrArg some (by kernel_rfl))
 f314 := Tryd.func100.trans (congrArg some (by kernel_rfl))
 t0 := Tryd.underlying0
 a0 := Tryd.isAgg0
 z0 := Tryd.sizeOf0
 v0 := Tryd.zeroValue0
 t3 := Tryd.underlying3
 a3 := Tryd.isAgg3
 z3 := Tryd.sizeOf3
 v3 := Tryd.zeroValue3
 t4 := Tryd.underlying4
 a4 := Tryd.isAgg4
 z4 := Tryd.sizeOf4
 v4 := Tryd.zeroValue4
 t5 := Tryd.underlying5
 a5 := Tryd.isAgg5
 z5 := Tryd.sizeOf5
 v5 := Tryd.zeroValue5
 t9 := Tryd.underlying9
 a9 := Tryd.isAgg9
 z9 := Tryd.sizeOf9
 v9 := Tryd.zeroValue9
 t21 := Tryd.underlying21
 a21 := Tryd.isAgg21
 z21 := Tryd.sizeOf21
 v21 := Tryd.zeroValue21
 t31 := Tryd.underlying32
 a31 := Tryd.isAgg32
 z31 := Tryd.sizeOf32
 v31 := Tryd.zeroValue32
 t46 := Tryd.underlying110
 a46 := Tryd.isAgg110
 z46 := Tryd.sizeOf110
 v46 := Tryd.zeroValue110
 t51 := Tryd.underlying117
 a51 := Tryd.isAgg117
 z51 := Tryd.sizeOf117
 v51 := Tryd.zeroValue117
 t105 := Tryd.underlying113
 a105 := Tryd.isAgg113
 z105 := Tryd.sizeOf113
 v105 := Tryd.zeroValue113
 t119 := Tryd.underlying124
 a119 := Tryd.isAgg124
 z119 := Tryd.sizeOf124
 t138 := Tryd.underlying126
 a138 := Tryd.isAgg126
 z138 := Tryd.sizeOf126
 v138 := Tryd.zeroValue126
 t139 := Tryd.underlying127
 a139 := Tryd.isAgg127
 z139 := Tryd.sizeOf127
 v139 := Tryd.zeroValue127
 t146 := Tryd.underlying118
 a146 := Tryd.isAgg118
 z146 := Tryd.sizeOf118
 v146 := Tryd.zeroValue118
 g1 := by kernel_rfl
 g3 := by kernel_rfl
 g4 := by kernel_rfl }
end Go.Proofs

namespace Go.Proofs.YtajplppeijmfpaaDoor.Lib1
open Go Go.Shelf Go.RowKit Go.Lib
set_option linter.unusedVariables false
set_option linter.unusedSimpArgs false
section
variable {P : Program} {ρ : Ren}
theorem index1 (L : Lays.n143 P ρ) (s : ByteArray) (c : UInt8) (w : World) :
  Calls P (ρ.f 143) #[.string s, .string ⟨#[c]⟩] w fun e w' => e = .returned (.int .i64 (Lib.indexB s ⟨#[c]⟩)) ∧ w' = w := by
 refine (Any.strings_Index_one L s c w).mono fun e w' ⟨he, hw⟩ => ⟨?_, hw⟩
 rw [he]
 show _ = Ending.returned (Value.int .i64 (Lib.index s.data.toList [c]))
 rw [Lib.index_one]
theorem genSplit1 (L : Lays.n221 P ρ) (hi9 : (P.info? (ρ.t 9)).map (fun i => (i.zero, i.size, i.bytes)) = some (some (.string ByteArray.empty), 1, 16)) (s : ByteArray) (c : UInt8) (n : Int) (N : Nat) (w : World)
  (hs : s.size < 4294967281) (hn0 : n ≠ 0) (hn63 : n ≤ 9223372036854775807) (hN : (N : Int) = min (if n < 0 then (Lib.countB s ⟨#[c]⟩ : Int) + 1 else n) ((s.size : Int) + 1)) :
  Calls P (ρ.f 221) #[.string s, .string ⟨#[c]⟩, .int .i64 ((0 : Nat) : Int), .int .i64 n] w fun e w' =>
   e = .returned (.slice (some ⟨w.heap.size, 0, none⟩) (Lib.splitB ⟨#[c]⟩ 0 (N - 1) s).length N) ∧ w' = w.alloc (.cells (Lib.cellsOf (Lib.splitB ⟨#[c]⟩ 0 (N - 1) s) N) (ρ.t 9)) :=
 Any.strings_genSplit_core L hi9 s ⟨#[c]⟩ 0 n N w hs (Nat.le_refl _) (Nat.zero_le _)
  (fun x cs hx => index1 { L with } x c _)
  ((Any.strings_Count_one { L with } s c w).mono fun e w' ⟨he, hw⟩ => ⟨by rw [he]; show _ = Ending.returned (Value.int .i64 ((Lib.count s.data.toList [c] : Nat) : Int)); rw [Lib.count_one]; rfl, hw⟩) hn0 hn63 hN
set_option maxHeartbeats 1000000 in
theorem split1 (L : Lays.n146 P ρ) (hi9 : (P.info? (ρ.t 9)).map (fun i => (i.zero, i.size, i.bytes)) = some (some (.string ByteArray.empty), 1, 16)) (s : ByteArray) (c : UInt8) (w : World) (hs : s.size < 4294967281) :
  Calls P (ρ.f 146) #[.string s, .string ⟨#[c]⟩] w fun e w' =>
   e = .returned (.slice (some ⟨w.heap.size, 0, none⟩) (Lib.countB s ⟨#[c]⟩ + 1) (Lib.countB s ⟨#[c]⟩ + 1)) ∧ w' = w.alloc (.cells ((Lib.splitB ⟨#[c]⟩ 0 (Lib.countB s ⟨#[c]⟩) s).map Value.string).toArray (ρ.t 9)) := by
 have h1 : 1 ≤ (⟨#[c]⟩ : ByteArray).size := Nat.le_refl _; have hle := Lib.countB_le ⟨#[c]⟩ h1 s.size s (Nat.le_refl _); have hlen := Lib.splitB_all ⟨#[c]⟩ h1 0 _ s rfl; have G := genSplit1 { L with } hi9 s c (-1) (Lib.countB s ⟨#[c]⟩ + 1) w hs (by decide) (by decide) (by rw [if_pos (by decide)]; omega); rw [Nat.add_sub_cancel, hlen] at G
 have e2 : Lib.cellsOf (Lib.splitB ⟨#[c]⟩ 0 (Lib.countB s ⟨#[c]⟩) s) (Lib.countB s ⟨#[c]⟩ + 1) = ((Lib.splitB ⟨#[c]⟩ 0 (Lib.countB s ⟨#[c]⟩) s).map Value.string).toArray := by rw [← hlen]; exact Lib.cellsOf_full _
 rw [e2] at G; clear e2 hle hlen; have t3 := L.t3; have t9 := L.t9; have t31 := L.t31; have a3 := L.a3; have a9 := L.a9; have a31 := L.a31; have z3 := L.z3; have v3 := L.v3; have z9 := L.z9; have v9 := L.v9; have z31 := L.z31; have v31 := L.v31; have e221 : ∀ args w, (callFunc (ρ.f 221) args).run P w = .ok (.enter (ρ.f 221) args) w := enters_of L.f221 (by kernel_rfl) rfl; go_enter L.f146, Body.n146_ntmps ρ; go_wp2_with (go_at_fn (ρ.f 221); refine G.mono ?_; rintro e w' ⟨rfl, hw⟩; rw [hw]); go_ret
 exact ⟨rfl, rfl⟩
end
end Go.Proofs.YtajplppeijmfpaaDoor.Lib1

namespace Go.Proofs.YtajplppeijmfpaaDoor.Nm
open Go Go.RowKit
set_option linter.unusedVariables false
set_option linter.unusedSimpArgs false
set_option maxHeartbeats 400000
theorem letter_any (n : Int) (first : Bool) (h0 : 0 ≤ n) (h1 : n ≤ 255) (w : World) : Calls Tryd.prog 68 #[.int .u8 n, .bool first] w fun e w' => e = .returned (.bool (letB n first)) ∧ w' = w := by
 go_enter Tryd.func68, Tryd.ntmps68; go_wp2
 all_goals
  go_ret; refine ⟨ret_bool ?_, rfl⟩
  simp_all [letB]
 all_goals omega
theorem part_any (s : ByteArray) (hs : s.size ≤ 4611686018427387904) (w : World) : Calls Tryd.prog 46 #[.string s] w fun e w' => e = .returned (.bool (partB s)) ∧ w' = w := by
 go_enter Tryd.func46, Tryd.ntmps46; go_wp2
 go_loop [6] (fun i => ∃ k : Nat, k ≤ s.size ∧ i = .int .i64 k ∧ lets s k = true) (fun i => s.size - (intOf i).toNat)
 case atStart => exact ⟨0, Nat.zero_le _, rfl, rfl⟩
 case round =>
  obtain ⟨k, hk, rfl, hl⟩ := hrel; replace hl := Lib.hid hl
  by_cases hlt : k < s.size
  ·have hb := bt_at s k hlt
   have hr := bt_range s k; have hsn := lets_succ s k; generalize hbk : bt s k = n at *; replace hbk := Lib.hid hbk; replace hsn := Lib.hid hsn; go_wp2_with (go_at_call 68; refine (letter_any _ _ (by omega) (by omega) _).mono ?_; rintro e w1 ⟨rfl, rfl⟩)
   ·have hL : letB n ((k : Int) == 0) = false := by simp_all
    go_ret
    exact ⟨ret_bool (by rw [partB, lets_false s k s.size hlt (by rw [hbk.out]; exact hL)]; rfl), rfl⟩
   ·have hL : letB n ((k : Int) == 0) = true := by simp_all
    go_round
    case rel => exact ⟨k + 1, by omega, by go_num, by rw [hsn.out, hl.out, hL]; rfl⟩
    case measure => simp [intOf]; omega
  ·obtain rfl : k = s.size := by omega
   go_wp2; go_ret
   exact ⟨ret_bool (by rw [partB, hl.out]; rfl), rfl⟩
def ML (_ : World) : Prop := True
theorem ML.below {w w1 : World} (_ : ML w) (_ : Below w.heap.size w w1) : ML w1 := trivial
def strC (l : List ByteArray) : Array Value := (l.map Value.string).toArray
theorem parts_any (s : ByteArray) (hs : s.size < 4294967281) (w : World) (hm : ML w) : Calls Tryd.prog 22 #[.string s] w fun e w' =>
  e = .returned (.slice (some ⟨w.heap.size, 0, none⟩) (partsB s).length (partsB s).length) ∧ w' = w.alloc (.cells (strC (partsB s)) 9) := by
 have S := Lib1.split1 Tryd.lays146 (by kernel_rfl) s 47 w hs; rw [← partsB_len] at S; replace S := Lib.hid S; clear hm; go_enter Tryd.func22, Tryd.ntmps22; go_wp2_with (go_at_call 49; refine S.out.mono ?_; rintro e w1 ⟨rfl, rfl⟩); go_ret
 exact ⟨rfl, rfl⟩
theorem valid1_any (s : ByteArray) (hs : s.size ≤ 4611686018427387904) (w : World) : Calls Tryd.prog 65 #[.string s] w fun e w' => e = .returned (.bool (!partB s)) ∧ w' = w := by
 have P := Lib.hid (part_any s hs w); go_enter Tryd.func65, Tryd.ntmps65; go_wp2_with (go_at_call 46; refine P.out.mono ?_; rintro e w1 ⟨rfl, rfl⟩); go_ret
 exact ⟨rfl, rfl⟩
def RdS (w : World) (b o : Nat) (l : List ByteArray) : Prop := ∀ j x, l[j]? = some x → w.cell? ⟨b, o + j, none⟩ = some (.string x)
theorem RdS.below {w w1 : World} {b o : Nat} {l : List ByteArray} (h : RdS w b o l) (hb : Below w.heap.size w w1) : RdS w1 b o l := fun j x hx => bl_cell hb (h j x hx)
theorem RdS.new (w : World) (l : List ByteArray) (t : TypeId) : RdS (w.alloc (.cells (strC l) t)) w.heap.size 0 l := by
 intro j x hx; rw [Nat.zero_add, cell_new]; simp [strC, hx]
theorem indexFunc_any (l : List ByteArray) (hl : l.length ≤ 4611686018427387904) (hs : ∀ x ∈ l, x.size ≤ 4611686018427387904) (b o c : Nat) (w : World) (hr : RdS w b o l) :
  Calls Tryd.prog 77 #[.slice (some ⟨b, o, none⟩) l.length c, .func (.func 65) #[] #[]] w fun e w' => (∃ n : Int, e = .returned (.int .i64 n) ∧ decide (0 ≤ n) = !l.all partB) ∧ w' = w := by
 go_enter Tryd.func77, Tryd.ntmps77; go_wp2
 go_loop [8] (fun i => ∃ k : Nat, k ≤ l.length ∧ i = .int .i64 k ∧ Hid (∀ j, j < k → ∀ x, l[j]? = some x → partB x = true)) (fun i => l.length - (intOf i).toNat)
 case atStart => exact ⟨0, Nat.zero_le _, rfl, fun j hj => absurd hj (by omega)⟩
 case round =>
  obtain ⟨k, hk, rfl, hp⟩ := hrel; replace hr := Lib.hid hr; replace hs := Lib.hid hs
  by_cases hlt : k < l.length
  ·obtain ⟨x, hx⟩ : ∃ x, l[k]? = some x := ⟨_, List.getElem?_eq_getElem hlt⟩
   have hcell := hr.out k x hx; have V := Lib.hid (valid1_any x (hs.out x (List.mem_of_getElem? hx)) w); replace hx := Lib.hid hx; go_wp2_with (go_at_call 65; refine V.out.mono ?_; rintro e w1 ⟨rfl, rfl⟩)
   ·have hf : partB x = false := by simp_all
    go_ret
    exact ⟨⟨k, rfl, by rw [bad_at l k x hx.out hf]; simp⟩, rfl⟩
   ·have hf : partB x = true := by simp_all
    go_round
    case rel => exact ⟨k + 1, by omega, by go_num, fun j hj y hy => by
     by_cases e : j = k
     ·subst e
      rw [hx.out] at hy
      cases hy
      exact hf
     ·exact hp.out j (by omega) y hy⟩
    case measure => simp [intOf]; omega
  ·go_wp2
   go_ret
   exact ⟨⟨-1, rfl, by rw [badFrom_all l k hp.out (by omega)]; rfl⟩, rfl⟩
theorem containsFunc_any (l : List ByteArray) (hl : l.length ≤ 4611686018427387904) (hs : ∀ x ∈ l, x.size ≤ 4611686018427387904) (b o c : Nat) (w : World) (hr : RdS w b o l) :
  Calls Tryd.prog 64 #[.slice (some ⟨b, o, none⟩) l.length c, .func (.func 65) #[] #[]] w fun e w' => e = .returned (.bool (!l.all partB)) ∧ w' = w := by
 have I := Lib.hid (indexFunc_any l hl hs b o c w hr); clear hs hr; go_enter Tryd.func64, Tryd.ntmps64; go_wp2_with (go_at_call 77; refine I.out.mono ?_; rintro e w1 ⟨⟨n, rfl, hn⟩, rfl⟩; replace hn := Lib.hid hn); go_ret
 exact ⟨ret_bool hn.out, rfl⟩
theorem valid_any (s : ByteArray) (w : World) (hm : ML w) : Calls Tryd.prog 43 #[.string s] w fun e w' => e = .returned (.bool (validB s)) ∧ Below w.heap.size w w' := by
 by_cases h60 : s.size ≤ 60
 ·have P := Lib.hid (parts_any s (by omega) w hm)
  have hle := partsB_le s; have C := Lib.hid (containsFunc_any (partsB s) (by omega) (fun x hx => by have := partsB_size s x hx; omega) w.heap.size 0 (partsB s).length _ (RdS.new w (partsB s) 9)); clear hm; go_enter Tryd.func43, Tryd.ntmps43
  go_wp2_with (first
   | (go_at_call 22; refine P.out.mono ?_; rintro e w1 ⟨rfl, rfl⟩)
   | (go_at_call 64; refine C.out.mono ?_; rintro e w1 ⟨rfl, rfl⟩))
  go_ret
  exact ⟨ret_bool (by simp [validB, h60]), (Below.refl _ _).alloc (Nat.le_refl _) _⟩
 ·have h60' : decide (s.size ≤ 60) = false := by simpa using h60
  clear hm; go_enter Tryd.func43, Tryd.ntmps43; go_wp2_with fail; go_ret
  exact ⟨ret_bool (by rw [validB, h60']; rfl), Below.refl _ _⟩
def slash (s : ByteArray) : Int := Lib.lastIndexByte s 47
theorem slash_bd (s : ByteArray) : -1 ≤ slash s ∧ slash s < s.size := by
 rcases Lib.lastIndexByte_spec s 47 with ⟨h, _⟩ | ⟨i, hi, h, _⟩
 ·unfold slash; omega
 ·unfold slash; omega
def pkgB (s : ByteArray) : ByteArray := s.extract 0 (max 0 (slash s)).toNat
theorem package_any (s : ByteArray) (hs : s.size < 4611686018427387904) (w : World) : Calls Tryd.prog 44 #[.string s] w fun e w' => e = .returned (.string (pkgB s)) ∧ w' = w := by
 have L : Calls Tryd.prog 66 #[.string s, .int .u8 47] w fun e w' => e = .returned (.int .i64 (slash s)) ∧ w' = w := Tryd.strings_LastIndexByte s 47 hs w; replace L := Lib.hid L; have hb := slash_bd s; have hfin : pkgB s = s.extract 0 (max 0 (slash s)).toNat := rfl; generalize slash s = i at *
 have hb2 : 0 ≤ max 0 i ∧ max 0 i ≤ (s.size : Int) := by omega
 replace hfin := Lib.hid hfin; go_enter Tryd.func44, Tryd.ntmps44; go_wp2_with (go_at_call 66; refine L.out.mono ?_; rintro e w1 ⟨rfl, rfl⟩); go_ret
 exact ⟨by rw [hfin.out]; rfl, rfl⟩
end Go.Proofs.YtajplppeijmfpaaDoor.Nm

namespace Go.Proofs.YtajplppeijmfpaaDoor.Nm
open Go Go.RowKit
set_option linter.unusedVariables false
set_option linter.unusedSimpArgs false
set_option maxHeartbeats 400000
set_option maxRecDepth 10000
theorem letB_digit (n : Int) : letB n false = (letB n true || decide (48 ≤ n ∧ n ≤ 57)) := by simp [letB]
theorem letB_true (n : Int) : letB n true = true ↔ ((97 ≤ n ∧ n ≤ 122) ∨ (65 ≤ n ∧ n ≤ 90) ∨ n = 95 ∨ n = 36) := by simp [letB, or_assoc]
theorem letB_any (n : Int) (b : Bool) (h : letB n true = true) : letB n b = true := by cases b <;> simp_all [letB]
theorem letB_digit' (n : Int) (h : ¬ letB n true = true) (h2 : n < 48 ∨ 57 < n) : letB n false = false := by
 have h := eq_false_of_ne_true h; rw [letB_digit, h]; simp
 omega
theorem isEmpty_size (s : ByteArray) : s.toList.isEmpty = decide (s.size = 0) := by
 rw [ByteArray.toList_eq, Bool.eq_iff_iff]; simp only [List.isEmpty_iff, decide_eq_true_eq]; rw [← List.length_eq_zero_iff, Array.length_toList]
 exact Iff.rfl
theorem rletter_any (n : Int) (h0 : 0 ≤ n) (h1 : n ≤ 255) (w : World) : Calls Tryd.prog 69 #[.int .u8 n] w fun e w' => e = .returned (.bool (letB n true)) ∧ w' = w := by
 go_enter Tryd.func69, Tryd.ntmps69; go_wp2
 all_goals
  go_ret; refine ⟨ret_bool ?_, rfl⟩; rw [Bool.eq_iff_iff, letB_true]
  simp_all
 all_goals omega
theorem rpart_any (s : ByteArray) (hs : s.size ≤ 4611686018427387904) (w : World) : Calls Tryd.prog 47 #[.string s] w fun e w' => e = .returned (.bool (partB s)) ∧ w' = w := by
 go_enter Tryd.func47, Tryd.ntmps47; go_wp2
 go_loop [3] (fun i => ∃ k : Nat, k ≤ s.size ∧ i = .int .i64 k ∧ lets s k = true) (fun i => s.size - (intOf i).toNat)
 case atStart => exact ⟨0, Nat.zero_le _, rfl, rfl⟩
 case round =>
  obtain ⟨k, hk, rfl, hl⟩ := hrel; replace hl := Lib.hid hl
  by_cases hlt : k < s.size
  ·have hb := bt_at s k hlt
   have hr := bt_range s k; have hsn := lets_succ s k; generalize hbk : bt s k = n at *; replace hbk := Lib.hid hbk; replace hsn := Lib.hid hsn
   have hno : ∀ b : Bool, b = ((k : Int) == 0) → letB n b = false → partB s = false := fun b e h => by rw [partB, lets_false s k s.size hlt (by rw [hbk.out, ← e]; exact h)]; rfl
   replace hno := Lib.hid hno; go_wp2_with (go_at_call 69; refine (rletter_any _ (by omega) (by omega) _).mono ?_; rintro e w1 ⟨rfl, rfl⟩)
   ·have hL : letB n true = true := by assumption
    go_round
    case rel => exact ⟨k + 1, by omega, by go_num, by rw [hsn.out, hl.out, letB_any n _ hL]; rfl⟩
    case measure => simp [intOf]; omega
   ·have hL : ¬ letB n true = true := by assumption
    have hk0 : k = 0 := by assumption
    go_ret
    exact ⟨ret_bool (hno.out true (by rw [hk0]; rfl) (eq_false_of_ne_true hL)).symm, rfl⟩
   ·have hL : ¬ letB n true = true := by assumption
    have hk0 : ¬ k = 0 := by assumption
    have hd : ((((k : Int) == 0) = true ∨ n < 48) ∨ 57 < n) := by assumption
    have hk1 : ((k : Int) == 0) = false := beq_eq_false_iff_ne.2 (by omega); rw [hk1] at hd; go_ret
    exact ⟨ret_bool (hno.out false hk1.symm (letB_digit' n hL (by simp at hd; omega))).symm, rfl⟩
   ·have hk0 : ¬ k = 0 := by assumption
    have hd : ((((k : Int) == 0) = false ∧ 48 ≤ n) ∧ n ≤ 57) := by assumption
    go_round
    case rel => exact ⟨k + 1, by omega, by go_num, by rw [hsn.out, hl.out, hd.1.1, letB_digit]; simp; omega⟩
    case measure => simp [intOf]; omega
   ·have hL : ¬ letB n true = true := by assumption
    have hk0 : ¬ k = 0 := by assumption
    have hk1 : ((k : Int) == 0) = false := beq_eq_false_iff_ne.2 (by omega)
    have hd : n < 48 := by assumption
    go_ret
    exact ⟨ret_bool (hno.out false hk1.symm (letB_digit' n hL (by omega))).symm, rfl⟩
  ·obtain rfl : k = s.size := by omega
   go_wp2; go_ret
   exact ⟨ret_bool (by rw [partB, hl.out, isEmpty_size, Bool.eq_iff_iff]; simp only [decide_eq_true_eq, Bool.true_and, Bool.not_eq_true', decide_eq_false_iff_not]; omega), rfl⟩
theorem strsT : (Tryd.prog.info? 9).map (fun i => (i.zero, i.size, i.bytes)) = some (some (.string ⟨#[]⟩), 1, 16) := by kernel_rfl
def strL (l : List ByteArray) : List Value := l.map Value.string
theorem strL_snoc (l : List ByteArray) (x : ByteArray) : strL (l ++ [x]) = strL l ++ [.string x] := by simp [strL]
theorem RdS_own {w : World} {base g cap n : Nat} {e : TypeId} {l : List ByteArray} (h : w.ownsRow base e 1 (.slice (some ⟨g, 0, none⟩) n cap) n (strL l)) : RdS w g 0 l := by
 intro j x hx; rw [Nat.zero_add]
 exact own_cell h j _ (by simp [strL, hx])
theorem rparts_any (s : ByteArray) (hs : s.size ≤ 4294967296) (w : World) : Calls Tryd.prog 23 #[.string s] w fun e w' =>
  (∃ g cap, e = .returned (.slice (some ⟨g, 0, none⟩) (partsB s).length cap) ∧ w'.ownsRow w.heap.size 9 1 (.slice (some ⟨g, 0, none⟩) (partsB s).length cap) (partsB s).length (strL (partsB s))) ∧ Below w.heap.size w w' := by
 go_enter Tryd.func23, Tryd.ntmps23; go_wp2
 go_loopw [3, 4, 5] (fun v fr i wr => ∃ k : Nat, k ≤ s.size ∧ i = .int .i64 k ∧ fr = .int .i64 (rparts s k).2 ∧ wr.ownsRow w.heap.size 9 1 v (rparts s k).1.length (strL (rparts s k).1) ∧ Below w.heap.size w wr) (fun _ _ i _ => s.size - (intOf i).toNat)
 case atStart => exact ⟨0, Nat.zero_le _, rfl, rfl, World.ownsRow_nil _ _ _ _, Below.refl _ _⟩
 case round =>
  obtain ⟨k, hk, rfl, rfl, hown, hB⟩ := hrel; have HO := Lib.hid hown; have HB := Lib.hid hB; have hsz := hB.size; have hle := rparts_le s k; clear hown hB
  by_cases hlt : k < s.size
  ·have hb := bt_at s k hlt
   have hsn := rparts_succ s k; generalize hbk : bt s k = n at *; generalize hrk : rparts s k = lk at *; obtain ⟨l, f⟩ := lk; simp only at hle HO; replace hsn := Lib.hid hsn; clear hbk hrk
   have hfk : (f : Int) ≤ (k : Int) := by omega
   have hks : (k : Int) ≤ (s.size : Int) := by omega
   go_wp2_with (at_builtin; go_loud (refine append1 w.heap.size rfl _ _ _ 9 (.string ⟨#[]⟩) 1 16 rfl Tryd.underlying32 strsT rfl (by decide) _ _ _ [.string (s.extract f k)] rfl _ (by simp) rfl rfl (by simp [Value.oneCell']) (by exact HO.out) (by omega) (by omega) (by omega) ?_); intro v1 w1 hown1 hg1)
   ·have hn : n = 47 := by simp_all
    have hown2 : w1.ownsRow w.heap.size 9 1 v1 (l ++ [s.extract f k]).length (strL (l ++ [s.extract f k])) := by rw [strL_snoc]; simpa using hown1
    go_roundw
    case rel => exact ⟨k + 1, by omega, by go_num, by rw [hsn.out, if_pos hn]; go_num, by rw [hsn.out, if_pos hn]; exact hown2, HB.out.grown hg1 (by omega) (own_base HO.out)⟩
    case measure => simp [intOf]; omega
   ·have hn : ¬ n = 47 := by simp_all
    go_roundw
    case rel => exact ⟨k + 1, by omega, by go_num, by rw [hsn.out, if_neg hn], by rw [hsn.out, if_neg hn]; exact HO.out, HB.out⟩
    case measure => simp [intOf]; omega
  ·obtain rfl : k = s.size := by omega
   have hall := rparts_all s; generalize hrk : rparts s s.size = lk at *; obtain ⟨l, f⟩ := lk; simp only at hle HO hall
   have hf : (f : Int) ≤ (s.size : Int) := by omega
   replace hall := Lib.hid hall; clear hrk; go_wp2_with (at_builtin; go_loud (refine append1 w.heap.size rfl _ _ _ 9 (.string ⟨#[]⟩) 1 16 rfl Tryd.underlying32 strsT rfl (by decide) _ _ _ [.string (s.extract f s.size)] rfl _ (by simp) rfl rfl (by simp [Value.oneCell']) (by exact HO.out) (by omega) (by omega) (by omega) ?_); intro v1 w1 hown1 hg1)
   have hown2 : w1.ownsRow w.heap.size 9 1 v1 (l ++ [s.extract f s.size]).length (strL (l ++ [s.extract f s.size])) := by rw [strL_snoc]; simpa using hown1
   rw [hall.out] at hown2; obtain ⟨g, cap, rfl, _, _⟩ := hown2.form (by rw [partsB_len]; omega); go_ret
   exact ⟨⟨g, cap, rfl, hown2⟩, HB.out.grown hg1 (by omega) (own_base HO.out)⟩
end Go.Proofs.YtajplppeijmfpaaDoor.Nm

namespace Go.Proofs.YtajplppeijmfpaaDoor.Nm
open Go Go.RowKit
set_option linter.unusedVariables false
set_option linter.unusedSimpArgs false
set_option maxHeartbeats 400000
def jn (l : List ByteArray) : List UInt8 := Lib.join (l.map (·.data.toList)) [47]
def joinP (l : List ByteArray) : List UInt8 × Int := if l = [] ∨ 60 < (jn l).length then ([], 1) else if l.all partB then (jn l, 0) else ([], 1)
theorem jn_cons2 (a b : ByteArray) (l : List ByteArray) : jn (a :: b :: l) = a.data.toList ++ 47 :: jn (b :: l) := by
 unfold jn; simp only [List.map_cons]; rw [Lib.join_cons, Lib.join_cons]; simp [Lib.joinTail]
theorem jn_one (a : ByteArray) : jn [a] = a.data.toList := by simp [jn, Lib.join_one]
theorem jn_snoc (l : List ByteArray) (h : l ≠ []) (x : ByteArray) : jn (l ++ [x]) = jn l ++ 47 :: x.data.toList := by
 induction l with
 | nil => exact absurd rfl h
 | cons a l ih =>
  cases l with
  | nil => simp [jn_cons2, jn_one]
  | cons b l =>
   rw [List.cons_append, List.cons_append, jn_cons2, jn_cons2, ← List.cons_append, ih (by simp)]; simp
def sumL (l : List ByteArray) : Nat := (l.map fun s => s.size + 1).sum
theorem sumL_jn (l : List ByteArray) (h : l ≠ []) : sumL l = (jn l).length + 1 := by
 induction l with
 | nil => exact absurd rfl h
 | cons a l ih =>
  cases l with
  | nil => simp [sumL, jn_one]
  | cons b l =>
   have := ih (by simp); rw [jn_cons2]; simp only [sumL, List.map_cons, List.sum_cons, List.length_append, List.length_cons, Array.length_toList] at this ⊢; have e : a.data.size = a.size := rfl
   omega
theorem sumL_snoc (l : List ByteArray) (k : Nat) (x : ByteArray) (hx : l[k]? = some x) : sumL (l.take (k + 1)) = sumL (l.take k) + x.size + 1 := by
 obtain ⟨h, rfl⟩ := List.getElem?_eq_some_iff.1 hx; rw [List.take_succ_eq_append_getElem h]; unfold sumL; rw [List.map_append, List.sum_append]; simp only [List.map_cons, List.map_nil, List.sum_cons, List.sum_nil]
 omega
theorem le_sumL (l : List ByteArray) (x : ByteArray) (hx : x ∈ l) : x.size + 1 ≤ sumL l := by
 induction l with
 | nil => cases hx
 | cons a l ih =>
  simp only [sumL, List.map_cons, List.sum_cons] at ih ⊢
  rcases List.mem_cons.1 hx with rfl | h
  ·omega
  ·have := ih h; omega
theorem sumL_take (l : List ByteArray) (k : Nat) : sumL (l.take k) ≤ sumL l := by
 have : sumL l = sumL (l.take k) + sumL (l.drop k) := by
  unfold sumL; rw [← List.sum_append, ← List.map_append, List.take_append_drop]
 omega
theorem join_any (l : List ByteArray) (hl : sumL l ≤ 1099511627776) (h0 : l ≠ []) (b o c : Nat) (hcap : l.length ≤ c) (w : World) (hb : b < w.heap.size) (hr : RdS w b o l) :
  Calls Tryd.prog 18 #[.slice (some ⟨b, o, none⟩) l.length c] w fun e w' => e = .returned (.tuple #[.string ⟨(joinP l).1.toArray⟩, .int .i64 (joinP l).2]) ∧ Below w.heap.size w w' := by
 have hsum := sumL_jn l h0
 have hlen : l.length ≤ sumL l := by
  clear hl hr hcap hsum h0
  induction l with
  | nil => simp [sumL]
  | cons a l ih => simp only [sumL, List.map_cons, List.sum_cons, List.length_cons] at ih ⊢; omega
 have J := Tryd.strings_Join b o c l ⟨#[47]⟩ w hr hb (by omega) hcap (by show (jn l).length ≤ _; omega); have hj : Lib.join (l.map (·.data.toList)) (⟨#[47]⟩ : ByteArray).data.toList = jn l := rfl; rw [hj] at J; replace J := Lib.hid J; have hpos : 0 < l.length := List.length_pos_iff.2 h0
 have hxs : Hid (∀ x ∈ l, x.size ≤ 4611686018427387904) := fun x hx => by
  have := le_sumL l x hx
  omega
 clear hj; replace hr := Lib.hid hr
 have hJP : Hid (joinP l = if 60 < (jn l).length then ([], 1) else if l.all partB then (jn l, 0) else ([], 1)) := by show _ = _; simp [joinP, h0]
 generalize jn l = res at *; clear h0; have hne : ((l.length : Int) == 0) = false := beq_eq_false_iff_ne.2 (by omega)
 by_cases h60 : 60 < res.length
 ·have hfin : Hid (joinP l = ([], 1)) := by show _ = _; rw [hJP.out, if_pos h60]
  go_enter Tryd.func18, Tryd.ntmps18; go_wp2_with (go_at_call 45; refine J.out.mono ?_; rintro e w1 ⟨rfl, hbl⟩; replace hbl := Lib.hid hbl); go_ret2
  exact ⟨by rw [hfin.out]; rfl, hbl.out⟩
 ·have hfin : Hid (joinP l = if l.all partB then (res, 0) else ([], 1)) := by show _ = _; rw [hJP.out, if_neg h60]
  clear hJP
  have h60' : (res.length : Int) ≤ 60 := by omega
  go_enter Tryd.func18, Tryd.ntmps18; go_wp2_with (go_at_call 45; refine J.out.mono ?_; rintro e w1 ⟨rfl, hbl⟩); replace hr : Hid (RdS w1 b o l) := hr.out.below hbl; replace hbl := Lib.hid hbl
  go_loop [19] (fun i => ∃ k : Nat, k ≤ l.length ∧ i = .int .i64 k ∧ Hid (∀ j, j < k → ∀ x, l[j]? = some x → partB x = true)) (fun i => l.length - (intOf i).toNat)
  case atStart => exact ⟨0, Nat.zero_le _, rfl, fun j hj => absurd hj (by omega)⟩
  case round =>
   obtain ⟨k, hk, rfl, hp⟩ := hrel
   by_cases hlt : k < l.length
   ·obtain ⟨x, hx⟩ : ∃ x, l[k]? = some x := ⟨_, List.getElem?_eq_getElem hlt⟩
    have hcell := hr.out k x hx; have V := Lib.hid (part_any x (hxs.out x (List.mem_of_getElem? hx)) w1); replace hx := Lib.hid hx; go_wp2_with (go_at_call 46; refine V.out.mono ?_; rintro e w2 ⟨rfl, rfl⟩)
    ·have hf : partB x = false := by simp_all
     go_ret2
     exact ⟨by rw [hfin.out, bad_at l k x hx.out hf]; rfl, hbl.out⟩
    ·have hf : partB x = true := by simp_all
     go_round
     case rel => exact ⟨k + 1, by omega, by go_num, fun j hj y hy => by
      by_cases e : j = k
      ·subst e
       rw [hx.out] at hy
       cases hy
       exact hf
      ·exact hp.out j (by omega) y hy⟩
     case measure => simp [intOf]; omega
   ·go_wp2
    go_ret2
    exact ⟨by rw [hfin.out, badFrom_all l k hp.out (by omega)]; rfl, hbl.out⟩
theorem join_none (A : Option Addr) (c : Nat) (w : World) : Calls Tryd.prog 18 #[.slice A 0 c] w fun e w' => e = .returned (.tuple #[.string ⟨(joinP []).1.toArray⟩, .int .i64 (joinP []).2]) ∧ Below w.heap.size w w' := by
 have J := Lib.hid (Tryd.strings_Join_none A c ⟨#[47]⟩ w); go_enter Tryd.func18, Tryd.ntmps18; go_wp2_with (go_at_call 45; refine J.out.mono ?_; rintro e w1 ⟨rfl, rfl⟩); go_ret2
 exact ⟨rfl, Below.refl _ _⟩
end Go.Proofs.YtajplppeijmfpaaDoor.Nm

namespace Go.Proofs.YtajplppeijmfpaaDoor.Nm
open Go Go.RowKit
set_option linter.unusedVariables false
set_option linter.unusedSimpArgs false
set_option maxHeartbeats 400000
set_option maxRecDepth 10000
theorem take_eq_step (l m : List ByteArray) (k : Nat) (x y : ByteArray) (hx : l[k]? = some x) (hy : m[k]? = some y) (h : l.take k = m.take k) (e : x = y) : l.take (k + 1) = m.take (k + 1) := by
 obtain ⟨h1, rfl⟩ := List.getElem?_eq_some_iff.1 hx; obtain ⟨h2, rfl⟩ := List.getElem?_eq_some_iff.1 hy; rw [List.take_succ_eq_append_getElem h1, List.take_succ_eq_append_getElem h2, h, e]
theorem toList_inj {x y : ByteArray} (h : x.toList = y.toList) : x = y := bytes_inj (by rw [← ByteArray.toList_eq, ← ByteArray.toList_eq, h])
theorem sameTexts_any (l m : List ByteArray) (hl : l.length ≤ 4611686018427387904) (b1 o1 c1 b2 o2 c2 : Nat) (w : World) (r1 : RdS w b1 o1 l) (r2 : RdS w b2 o2 m) :
  Calls Tryd.prog 20 #[.slice (some ⟨b1, o1, none⟩) l.length c1, .slice (some ⟨b2, o2, none⟩) m.length c2] w fun e w' => e = .returned (.bool (decide (l = m))) ∧ Below w.heap.size w w' := by
 by_cases hlen : l.length = m.length
 ·have hne : ((l.length : Int) != (m.length : Int)) = false := by simp [hlen]
  have hR1 : Hid (RdS w b1 o1 l) := r1; have hR2 : Hid (RdS w b2 o2 m) := r2; clear r1 r2; replace hlen := Lib.hid hlen; go_enter Tryd.func20, Tryd.ntmps20; go_wp2
  go_loopw [5] (fun i wr => ∃ k : Nat, k ≤ l.length ∧ i = .int .i64 k ∧ Hid (l.take k = m.take k) ∧ Below w.heap.size w wr) (fun i _ => l.length - (intOf i).toNat)
  case atStart => exact ⟨0, Nat.zero_le _, rfl, rfl, Below.refl _ _⟩
  case round =>
   obtain ⟨k, hk, rfl, ht, hB⟩ := hrel
   by_cases hlt : k < l.length
   ·obtain ⟨x, hx⟩ : ∃ x, l[k]? = some x := ⟨_, List.getElem?_eq_getElem hlt⟩
    obtain ⟨y, hy⟩ : ∃ y, m[k]? = some y := ⟨_, List.getElem?_eq_getElem (by have := hlen.out; omega)⟩
    have cx := bl_cell hB (hR1.out k x hx); have cy := bl_cell hB (hR2.out k y hy)
    have hlt2 : (k : Int) < (m.length : Int) := by have := hlen.out; omega
    replace hB := Lib.hid hB; replace hx := Lib.hid hx; replace hy := Lib.hid hy; go_wp2
    go_quiet (fail)
    go_wp2
    ·have hxy : x ≠ y := fun e => by simp_all
     go_ret
     exact ⟨ret_bool (by rw [eq_comm, decide_eq_false_iff_not]; intro e; rw [e, hy.out] at hx; exact hxy (Option.some.inj hx.out).symm), below_drewN hB.out _⟩
    ·have hxy : x = y := toList_inj (by simp_all)
     go_roundw
     case rel => exact ⟨k + 1, by omega, by go_num, take_eq_step l m k x y hx.out hy.out ht.out hxy, below_drewN hB.out _⟩
     case measure => simp [intOf]; omega
   ·have hfin : l = m := by
     have h1 := ht.out; rw [List.take_of_length_le (by omega), List.take_of_length_le (by have := hlen.out; omega)] at h1
     exact h1
    replace hfin := Lib.hid hfin; replace hB := Lib.hid hB; go_wp2; go_ret
    exact ⟨ret_bool (by rw [eq_comm, decide_eq_true_eq]; exact hfin.out), hB.out⟩
 ·have hne : ((l.length : Int) != (m.length : Int)) = true := by simp; omega
  clear r1 r2; go_enter Tryd.func20, Tryd.ntmps20; go_wp2; go_ret
  exact ⟨ret_bool (by rw [eq_comm, decide_eq_false_iff_not]; intro e; exact hlen (by rw [e])), Below.refl _ _⟩
theorem joinP_bad (l : List ByteArray) (h : l.all partB = false) : joinP l = ([], 1) := by simp [joinP, h]
theorem joinP_long (l : List ByteArray) (h : 61 < sumL l) : joinP l = ([], 1) := by
 have h0 : l ≠ [] := by rintro rfl; simp [sumL] at h
 have := sumL_jn l h0; rw [joinP, if_pos (.inr (by omega))]
theorem joinP_ok (l : List ByteArray) (h0 : l ≠ []) (h : sumL l ≤ 61) (ha : l.all partB = true) : joinP l = (jn l, 0) := by
 have := sumL_jn l h0; rw [joinP, if_neg (by simp [h0]; omega), if_pos ha]
theorem jn_take_succ (l : List ByteArray) (k : Nat) (hk : 0 < k) (x : ByteArray) (hx : l[k]? = some x) : jn (l.take (k + 1)) = jn (l.take k) ++ 47 :: x.data.toList := by
 obtain ⟨h, rfl⟩ := List.getElem?_eq_some_iff.1 hx; rw [List.take_succ_eq_append_getElem h, jn_snoc _ (by intro e; have := congrArg List.length e; rw [List.length_take, List.length_nil] at this; omega)]
theorem jn_take_len (l : List ByteArray) (k : Nat) (hk : 0 < k) (h0 : l ≠ []) : (jn (l.take k)).length + 1 ≤ sumL l := by
 have h1 : l.take k ≠ [] := by intro e; have h1 := congrArg List.length e; have := List.length_pos_iff.2 h0; rw [List.length_take, List.length_nil] at h1; omega
 have := sumL_jn _ h1; have := sumL_take l k
 omega
theorem rjoin_any (l : List ByteArray) (hl : sumL l ≤ 1099511627776) (b o c : Nat) (w : World) (hr : RdS w b o l) :
  Calls Tryd.prog 19 #[.slice (some ⟨b, o, none⟩) l.length c] w fun e w' => e = .returned (.tuple #[.string ⟨(joinP l).1.toArray⟩, .int .i64 (joinP l).2]) ∧ w' = w := by
 have hlen : l.length ≤ sumL l := by
  clear hl hr
  induction l with
  | nil => simp [sumL]
  | cons a l ih => simp only [sumL, List.map_cons, List.sum_cons, List.length_cons] at ih ⊢; omega
 have hxs : Hid (∀ x ∈ l, x.size + 1 ≤ sumL l) := fun x hx => le_sumL l x hx; replace hr := Lib.hid hr; go_enter Tryd.func19, Tryd.ntmps19; go_wp2
 go_loop [4, 5] (fun sz i => ∃ k : Nat, k ≤ l.length ∧ i = .int .i64 k ∧ sz = .int .i64 (sumL (l.take k)) ∧ sumL (l.take k) ≤ 61 ∧ Hid (∀ j, j < k → ∀ x, l[j]? = some x → partB x = true)) (fun _ i => l.length - (intOf i).toNat)
 case atStart => exact ⟨0, Nat.zero_le _, rfl, rfl, by simp [sumL], fun j hj => absurd hj (by omega)⟩
 case round =>
  obtain ⟨k, hk, rfl, rfl, hs61, hp⟩ := hrel
  by_cases hlt : k < l.length
  ·obtain ⟨x, hx⟩ : ∃ x, l[k]? = some x := ⟨_, List.getElem?_eq_getElem hlt⟩
   have hcell := hr.out k x hx; have hxz := hxs.out x (List.mem_of_getElem? hx); have V := Lib.hid (rpart_any x (by omega) w); have hsn := sumL_snoc l k x hx; have hst := sumL_take l (k + 1); replace hx := Lib.hid hx; generalize hS : sumL (l.take k) = S at *; generalize hS' : sumL (l.take (k + 1)) = S' at *; replace hS' := Lib.hid hS'; clear hS; subst hsn; go_wp2_with (go_at_call 47; refine V.out.mono ?_; rintro e w2 ⟨rfl, rfl⟩)
   ·have hf : joinP l = ([], 1) := joinP_long l (by omega)
    go_ret2
    exact ⟨by rw [hf]; rfl, rfl⟩
   ·have hf : joinP l = ([], 1) := joinP_long l (by omega)
    go_ret2
    exact ⟨by rw [hf]; rfl, rfl⟩
   ·have hf : partB x = true := by assumption
    go_round
    case rel => exact ⟨k + 1, by omega, by go_num, by rw [hS'.out]; go_num, by rw [hS'.out]; omega, fun j hj y hy => by
     by_cases e : j = k
     ·subst e
      rw [hx.out] at hy
      cases hy
      exact hf
     ·exact hp.out j (by omega) y hy⟩
    case measure => simp [intOf]; omega
   ·have hb : ¬ partB x = true := by assumption
    have hf : joinP l = ([], 1) := joinP_bad l (bad_at l k x hx.out (eq_false_of_ne_true hb)); go_ret2
    exact ⟨by rw [hf]; rfl, rfl⟩
  ·obtain rfl : k = l.length := by omega
   rw [List.take_length] at hs61
   by_cases h0 : l = []
   ·subst h0
    go_wp2; go_ret2
    exact ⟨rfl, rfl⟩
   ·have hpos := List.length_pos_iff.2 h0
    have hne : ((l.length : Int) == 0) = false := beq_eq_false_iff_ne.2 (by omega); have hfin : Hid (joinP l = (jn l, 0)) := joinP_ok l h0 hs61 (badFrom_all l _ hp.out (by omega))
    obtain ⟨y, hy⟩ : ∃ y, l[0]? = some y := ⟨_, List.getElem?_eq_getElem hpos⟩
    have hc0 := hr.out 0 y hy; rw [Nat.add_zero] at hc0
    have hj1 : Hid (jn (l.take 1) = y.data.toList) := by
     show _ = _
     cases l with
     | nil => exact absurd rfl h0
     | cons a l => simp at hy; subst hy; simp [jn_one]
    have H0 := Lib.hid h0; clear hy h0 hp; rw [List.take_length]; go_wp2
    go_loop [6, 7] (fun t i => ∃ k : Nat, 0 < k ∧ k ≤ l.length ∧ i = .int .i64 k ∧ ∃ r : ByteArray, t = .string r ∧ Hid (r.data.toList = jn (l.take k)) ∧ r.size ≤ 61) (fun _ i => l.length - (intOf i).toNat)
    case atStart => exact ⟨1, by omega, hpos, rfl, y, rfl, hj1.out.symm, by
     have := jn_take_len l 1 (by omega) H0.out; rw [hj1.out, Array.length_toList] at this
     show y.data.size ≤ 61
     omega⟩
    case round =>
     obtain ⟨k, hk0, hk, rfl, r, rfl, hrj, hr61⟩ := hrel
     by_cases hlt : k < l.length
     ·obtain ⟨x, hx⟩ : ∃ x, l[k]? = some x := ⟨_, List.getElem?_eq_getElem hlt⟩
      have hcell := hr.out k x hx; have hxz := hxs.out x (List.mem_of_getElem? hx); have hj := jn_take_succ l k hk0 x hx; have hjl := jn_take_len l (k + 1) (by omega) H0.out; replace hj := Lib.hid hj; have hjl2 := Lib.hid hjl; clear hx hjl; go_wp2
      go_round
      case rel => exact ⟨k + 1, by omega, by omega, by go_num, r ++ ⟨#[47]⟩ ++ x, rfl, by
       show _ = _
       rw [hj.out, ← hrj.out]
       simp, by
       have h1 := hjl2.out; rw [hj.out, ← hrj.out] at h1; simp at h1; have e1 : r.data.size = r.size := rfl; have e2 : x.data.size = x.size := rfl; have e3 : (⟨#[47]⟩ : ByteArray).size = 1 := rfl; simp
       omega⟩
      case measure => simp [intOf]; omega
     ·obtain rfl : k = l.length := by omega
      go_wp2; go_ret2; refine ⟨?_, rfl⟩; have h1 := hrj.out; rw [List.take_length] at h1; rw [hfin.out, ← h1]
      rfl
end Go.Proofs.YtajplppeijmfpaaDoor.Nm

namespace Go.Proofs.YtajplppeijmfpaaDoor.Nm
open Go Go.RowKit
set_option linter.unusedVariables false
set_option linter.unusedSimpArgs false
def front (s : ByteArray) : List ByteArray := (rparts s s.size).1
end Go.Proofs.YtajplppeijmfpaaDoor.Nm

namespace Go.Proofs.YtajplppeijmfpaaDoor.Nm
open Go Go.RowKit
set_option linter.unusedVariables false
set_option linter.unusedSimpArgs false
set_option maxHeartbeats 1000000
set_option maxRecDepth 10000
theorem inR_of {f : Int} (h : (Lit.int .i64 f).wf = true) : -9223372036854775808 ≤ f ∧ f ≤ 9223372036854775807 := by
 have h1 : IntKind.i64.min ≤ f ∧ f ≤ 9223372036854775807 := by simpa [Lit.wf] using h
 exact h1
theorem length_data (s : ByteArray) : s.data.toList.length = s.size := by rw [Array.length_toList]; rfl
theorem valid_pA : validB ⟨#[112, 47, 65]⟩ = true := by decide +kernel
theorem pkg_pA : pkgB ⟨#[112, 47, 65]⟩ = ⟨#[112]⟩ := by decide +kernel
theorem awake_any (w : World) (hm : ML w) : Calls Tryd.prog 17 #[] w fun e w' => e = .returned (.bool true) ∧ Below w.heap.size w w' := by
 have V := valid_any ⟨#[112, 47, 65]⟩ w hm; rw [valid_pA] at V; replace V := Lib.hid V; have K : ∀ W, _ := fun W => package_any ⟨#[112, 47, 65]⟩ (by decide) W; rw [pkg_pA] at K; replace K := Lib.hid K; go_enter Tryd.func17, Tryd.ntmps17
 go_wp2_with (first
  | (go_at_call 43; refine V.out.mono ?_; rintro e w1 ⟨rfl, hbl⟩; replace hbl := Lib.hid hbl)
  | (go_at_call 44; refine (K.out _).mono ?_; rintro e w2 ⟨rfl, rfl⟩))
 go_ret
 exact ⟨rfl, hbl.out⟩
end Go.Proofs.YtajplppeijmfpaaDoor.Nm

namespace Go.Proofs.YtajplppeijmfpaaDoor.Nm
open Go Go.RowKit
set_option linter.unusedVariables false
set_option linter.unusedSimpArgs false
set_option maxHeartbeats 1000000
set_option maxRecDepth 10000
structure Stt (w W : World) : Prop where
 ml : ML W
 bl : Below w.heap.size w W
theorem Stt.step {w W W1 : World} (h : Stt w W) (hb : Below W.heap.size W W1) : Stt w W1 := ⟨h.ml.below hb, bl_trans h.bl hb⟩
end Go.Proofs.YtajplppeijmfpaaDoor.Nm

namespace Go.Proofs.YtajplppeijmfpaaDoor.Nm
open Go Go.RowKit
set_option linter.unusedVariables false
set_option linter.unusedSimpArgs false
set_option maxHeartbeats 1000000
set_option maxRecDepth 10000
def RdA (w : World) (ad : Addr) (l : List ByteArray) : Prop := ∀ j x, l[j]? = some x → w.cell? (ad.add j) = some (.string x)
theorem RdA.below {w w1 : World} {ad : Addr} {l : List ByteArray} (h : RdA w ad l) (hb : Below w.heap.size w w1) : RdA w1 ad l := fun j x hx => bl_cell hb (h j x hx)
def StrArg (w : World) (A : Option Addr) (n c : Nat) (l : List ByteArray) : Prop :=
 n = l.length ∧ ((A = none ∧ c = 0 ∧ l = []) ∨ ∃ ad, A = some ad ∧ n ≤ c ∧ RdA w ad l)
theorem StrArg.below {w w1 : World} {A : Option Addr} {n c : Nat} {l : List ByteArray} (h : StrArg w A n c l) (hb : Below w.heap.size w w1) : StrArg w1 A n c l := by
 obtain ⟨h1, h2⟩ := h; refine ⟨h1, ?_⟩
 rcases h2 with h2 | ⟨ad, h2, h3, h5⟩
 ·exact .inl h2
 ·exact .inr ⟨ad, h2, h3, h5.below hb⟩
theorem add_at (b o j : Nat) : (⟨b, o, none⟩ : Addr).add j = ⟨b, o + j, none⟩ := by unfold Addr.add; split <;> simp_all
theorem RdA.spot {w : World} {ad : Addr} {l : List ByteArray} (h : RdA w ad l) (h0 : l ≠ []) : ∃ b o, ad = ⟨b, o, none⟩ ∧ b < w.heap.size ∧ RdS w b o l := by
 obtain ⟨b, o, sp⟩ := ad; have hpos := List.length_pos_iff.2 h0; have hc := h 0 l[0] (List.getElem?_eq_getElem hpos)
 have hs : sp = none := by
  have := World.cell?_spot hc
  simpa [Addr.add] using this
 subst hs; refine ⟨b, o, rfl, ?_, fun j x hx => by have := h j x hx; rwa [add_at] at this⟩; rw [add_at] at hc
 exact World.block_lt_of_cell? w _ hc
theorem RdS.any {w : World} {b o : Nat} {l : List ByteArray} (h : RdS w b o l) : RdA w ⟨b, o, none⟩ l := fun j x hx => by rw [add_at]; exact h j x hx
theorem append_strs {P : Program} {ops : Array Oper} {rest : List Oper} {o : Oper} {a : Act} {Q : Exit → Act → World → Prop} {W : World} (base : Nat) (hgd : o.guard = none) (s x : Operand) (t e : TypeId)
  (ho : o.op = .call { callee := .builtin .append, args := #[s, x], argTypes := #[t, t] })
  (ht : P.underlying t = some (.slice e)) (hinfo : (P.info? e).map (fun i => (i.zero, i.size, i.bytes)) = some (some (.string ⟨#[]⟩), 1, 16))
  (v : Value) (xs l : List ByteArray) (hs : a.eval s = v) (ad : Addr) (c : Nat) (n : Nat) (hx : a.eval x = .slice (some ad) n c) (hn : n = l.length) (hr : RdA W ad l)
  (HO : W.ownsRow base e 1 v xs.length (strL xs)) (hbase : base ≤ W.heap.size) (hl : (xs.length + n) * 16 ≤ 140737488355328)
  (h : ∀ v1 w1, w1.ownsRow base e 1 v1 (xs ++ l).length (strL (xs ++ l)) → W.grownBy w1 v.ownBlock → wpList P ops Q rest (a.put o.dst v1) w1) :
  wpList P ops Q (o :: rest) a W := by
 obtain ⟨i0, hi, hzz⟩ := Option.map_eq_some_iff.1 hinfo; simp only [Prod.mk.injEq] at hzz; obtain ⟨hz0, hz1, hz2⟩ := hzz; subst hn; refine wpList_append_own W hgd s x t ho base e i0 _ 1 16 ht hi hz0 hz1 hz2 rfl (by decide) v xs.length (strL xs) hs HO ad l.length c (strL l) hx (by simp [strL]) ?_ ?_ (by simp only [maxLen]; omega) hl hbase ?_
 ·intro j u hu
  simp only [strL, List.getElem?_map, Option.map_eq_some_iff] at hu; obtain ⟨y, hy, rfl⟩ := hu
  exact hr j y hy
 ·intro u hu
  simp only [strL, List.mem_map] at hu; obtain ⟨y, _, rfl⟩ := hu
  rfl
 ·intro v1 w1 hown hg _
  refine h v1 w1 ?_ hg; rw [List.length_append, show strL (xs ++ l) = strL xs ++ strL l by simp [strL]]
  exact hown
theorem joinAny (A : Option Addr) (n c : Nat) (l : List ByteArray) (hl : sumL l ≤ 1099511627776) (w : World) (h : StrArg w A n c l) :
  Calls Tryd.prog 18 #[.slice A n c] w fun e w' => e = .returned (.tuple #[.string ⟨(joinP l).1.toArray⟩, .int .i64 (joinP l).2]) ∧ Below w.heap.size w w' := by
 obtain ⟨rfl, h2⟩ := h
 by_cases h0 : l = []
 ·subst h0; exact join_none A c w
 ·rcases h2 with ⟨_, _, h2⟩ | ⟨ad, rfl, h3, h5⟩
  ·exact absurd h2 h0
  ·obtain ⟨b, o, rfl, h4, h6⟩ := h5.spot h0
   exact join_any l hl h0 b o c h3 w h4 h6
theorem rjoin_none (A : Option Addr) (c : Nat) (w : World) : Calls Tryd.prog 19 #[.slice A 0 c] w fun e w' => e = .returned (.tuple #[.string ⟨(joinP []).1.toArray⟩, .int .i64 (joinP []).2]) ∧ w' = w := by
 go_enter Tryd.func19, Tryd.ntmps19; go_wp2
 go_loop [4, 5] (fun sz i => sz = .int .i64 0 ∧ i = .int .i64 0) (fun _ i => 0)
 case atStart => exact ⟨rfl, rfl⟩
 case round =>
  obtain ⟨rfl, rfl⟩ := hrel; go_wp2; go_ret2
  exact ⟨rfl, rfl⟩
theorem rjoinAny (A : Option Addr) (n c : Nat) (l : List ByteArray) (hl : sumL l ≤ 1099511627776) (w : World) (h : StrArg w A n c l) :
  Calls Tryd.prog 19 #[.slice A n c] w fun e w' => e = .returned (.tuple #[.string ⟨(joinP l).1.toArray⟩, .int .i64 (joinP l).2]) ∧ w' = w := by
 obtain ⟨rfl, h2⟩ := h
 by_cases h0 : l = []
 ·subst h0; exact rjoin_none A c w
 ·rcases h2 with ⟨_, _, h2⟩ | ⟨ad, rfl, h3, h5⟩
  ·exact absurd h2 h0
  ·obtain ⟨b, o, rfl, h4, h6⟩ := h5.spot h0
   exact rjoin_any l hl b o c w h6
end Go.Proofs.YtajplppeijmfpaaDoor.Nm

namespace Go.Proofs.YtajplppeijmfpaaDoor.Ap
open Go Go.RowKit
set_option linter.unusedVariables false
set_option linter.unusedSimpArgs false
theorem heap_lt' {w : World} {g : Nat} {o : Obj} (h : w.heap[g]? = some o) : g < w.heap.size := (Array.getElem?_eq_some_iff.1 h).1
theorem own_prefix {w : World} {B : Nat} {e : TypeId} {g c n m : Nat} {xs : List Value} (h : w.ownsRow B e 1 (.slice (some ⟨g, 0, none⟩) m c) m xs) (hn : n ≤ m) :
  w.ownsRow B e 1 (.slice (some ⟨g, 0, none⟩) n c) n (xs.take n) := by
 obtain ⟨h1, h2⟩ := h
 rcases h2 with ⟨h', _⟩ | ⟨g', cap', cur, h', hb, hg, hnc, hcm, hcs, ht⟩
 ·simp at h'
 ·simp only [Value.slice.injEq, Option.some.injEq, Addr.mk.injEq, and_true, true_and] at h'
  obtain ⟨rfl, rfl⟩ := h'; refine ⟨by simp; omega, .inr ⟨g, c, cur, rfl, hb, hg, by omega, hcm, hcs, ?_⟩⟩; rw [← ht, List.take_take]
  congr 1
  omega
theorem own_caps {w : World} {B : Nat} {e : TypeId} {g c d n m : Nat} {xs ys : List Value} (h : w.ownsRow B e 1 (.slice (some ⟨g, 0, none⟩) m c) m xs) (k : w.ownsRow B e 1 (.slice (some ⟨g, 0, none⟩) n d) n ys) : c = d := by
 rcases h.2 with ⟨h', _⟩ | ⟨g', cap', cur, h', hb, hg, hnc, hcm, hcs, ht⟩
 ·simp at h'
 rcases k.2 with ⟨k', _⟩ | ⟨g2, cap2, cur2, k', kb, kg, knc, kcm, kcs, kt⟩
 ·simp at k'
 simp only [Value.slice.injEq, Option.some.injEq, Addr.mk.injEq, and_true, true_and] at h' k'; obtain ⟨rfl, rfl⟩ := h'; obtain ⟨rfl, rfl⟩ := k'; rw [hg] at kg; injection kg with kg; injection kg with kg; subst kg
 omega
theorem own_form {w : World} {B : Nat} {e : TypeId} {v : Value} {n : Nat} {xs : List Value} (h : w.ownsRow B e 1 v n xs) :
  (v = .slice none 0 0 ∧ n = 0) ∨ ∃ g c, v = .slice (some ⟨g, 0, none⟩) n c ∧ n ≤ c ∧ c ≤ maxLen ∧ B ≤ g ∧ g < w.heap.size := by
 rcases h.2 with ⟨h1, h2⟩ | ⟨g, cap, cur, h', hb, hg, hnc, hcm, hcs, ht⟩
 ·exact .inl ⟨h1, h2⟩
 ·exact .inr ⟨g, cap, h', hnc, hcm, hb, heap_lt' hg⟩
structure Grows (W w : World) (B : Nat) (e : TypeId) (X v0 g : Value) (n m : Nat) : Prop where
 row : w.ownsRow B e 1 g (n + m) (List.replicate (n + m) X)
 old : w.ownsRow B e 1 v0 n (List.replicate n X)
 place : g.ownBlock = v0.ownBlock ∨ ∃ k, g.ownBlock = some k ∧ W.heap.size ≤ k
 os : w.os = W.os
 tape : w.tape = W.tape
 output : w.output = W.output
 size : W.heap.size ≤ w.heap.size
 block : ∀ k, k < W.heap.size → v0.ownBlock ≠ some k → w.heap[k]? = W.heap[k]?
theorem Grows.start {W : World} {B : Nat} {e : TypeId} {X v0 : Value} {n : Nat} (h : W.ownsRow B e 1 v0 n (List.replicate n X)) : Grows W W B e X v0 v0 n 0 :=
 ⟨h, h, .inl rfl, rfl, rfl, rfl, Nat.le_refl _, fun _ _ _ => rfl⟩
theorem Grows.alloc {W w : World} {B : Nat} {e : TypeId} {X v0 g : Value} {n m : Nat} (h : Grows W w B e X v0 g n m) (o : Obj) : Grows W (w.alloc o) B e X v0 g n m :=
 ⟨h.row.alloc o, h.old.alloc o, h.place, h.os, h.tape, h.output, by have := h.size; simp; omega, fun k hk hn => (Below.heap_alloc w o k (Nat.lt_of_lt_of_le hk h.size)).trans (h.block k hk hn)⟩
theorem Grows.drew {W w : World} {B : Nat} {e : TypeId} {X v0 g : Value} {n m : Nat} (h : Grows W w B e X v0 g n m) : Grows W w.drew B e X v0 g n m :=
 ⟨h.row, h.old, h.place, h.os, h.tape, h.output, h.size, h.block⟩
theorem own_below {w w' : World} {B : Nat} {e : TypeId} {v : Value} {n : Nat} {xs : List Value} (h : w.ownsRow B e 1 v n xs) (hb : Below w.heap.size w w') : w'.ownsRow B e 1 v n xs :=
 h.kept (w' := w') (row := none) ⟨hb.os, hb.tape, hb.output, hb.size, fun k hk _ => hb.block k hk⟩ (by by_cases hv : v.ownBlock = none <;> simp [hv])
theorem Grows.below {W w w' : World} {B : Nat} {e : TypeId} {X v0 g : Value} {n m : Nat} (h : Grows W w B e X v0 g n m) (hb : Below w.heap.size w w') : Grows W w' B e X v0 g n m :=
 ⟨own_below h.row hb, own_below h.old hb, h.place, hb.os.trans h.os, hb.tape.trans h.tape, hb.output.trans h.output, Nat.le_trans h.size hb.size, fun k hk hn => (hb.block k (Nat.lt_of_lt_of_le hk h.size)).trans (h.block k hk hn)⟩
theorem kept_none {w w' : World} {B : Nat} {e : TypeId} {v : Value} {n : Nat} {xs : List Value} (h : w.ownsRow B e 1 v n xs) (hg : w.grownBy w' none) : w'.ownsRow B e 1 v n xs :=
 h.kept hg (by by_cases hv : v.ownBlock = none <;> simp [hv])
theorem wp_grows {P : Program} {W w : World} {ops : Array Oper} {rest : List Oper} {o : Oper} {a : Act} {Q : Exit → Act → World → Prop} (hgd : o.guard = none) (s x : Operand) (t e : TypeId) (z : Value) (bytes : Nat)
    (ho : o.op = .call { callee := .builtin .append, args := #[s, x], argTypes := #[t, t] })
    (ht : P.underlying t = some (.slice e)) (hinfo : (P.info? e).map (fun i => (i.zero, i.size, i.bytes)) = some (some z, 1, bytes)) (hz : z.cells.size = 1)
    {B : Nat} {X v0 g : Value} {n m : Nat} (HG : Grows W w B e X v0 g n m) (hWB : B ≤ W.heap.size) (hs : a.eval s = g) (xb : Nat) (hx : a.eval x = .slice (some ⟨xb, 0, none⟩) 1 1)
    (hxc : w.cell? ⟨xb, 0, none⟩ = some X) (h1 : X.oneCell' = true) (hm : n + m + 1 ≤ maxLen) (hl : (n + m + 1) * bytes ≤ 140737488355328)
    (hK : ∀ g1 w1, Grows W w1 B e X v0 g1 n (m + 1) → wpList P ops Q rest (a.put o.dst g1) w1) : wpList P ops Q (o :: rest) a w := by
  obtain ⟨i0, hi, hzz⟩ := Option.map_eq_some_iff.1 hinfo
  simp only [Prod.mk.injEq] at hzz
  obtain ⟨hz0, hz1, hz2⟩ := hzz
  have hwB : B ≤ w.heap.size := Nat.le_trans hWB HG.size
  have hnews : ∀ j u, [X][j]? = some u → w.cell? ((⟨xb, 0, none⟩ : Addr).add j) = some u := by
    intro j u hu
    cases j with
    | zero => simp at hu; subst hu; rw [Addr.add_lit]; exact hxc
    | succ j => simp at hu
  have hone : ∀ u ∈ [X], u.oneCell' = true := by intro u hu; simp at hu; subst hu; exact h1
  have hrep : List.replicate (n + m) X ++ [X] = List.replicate (n + (m + 1)) X := by
    rw [show n + (m + 1) = (n + m) + 1 by omega, List.replicate_succ']
  -- what is laid anew
  have grow : ∀ v' w', w'.ownsRow w.heap.size e 1 v' (n + m + 1) (List.replicate (n + m) X ++ [X]) → w.grownBy w' none → Grows W w' B e X v0 v' n (m + 1) := by
    intro v' w' h hg
    rw [hrep] at h
    refine ⟨h.mono hwB, kept_none HG.old hg, .inr ?_, hg.os.trans HG.os, hg.tape.trans HG.tape, hg.output.trans HG.output, Nat.le_trans HG.size hg.size, fun k hk hn => (hg.block k (Nat.lt_of_lt_of_le hk HG.size) (by simp)).trans (HG.block k hk hn)⟩
    rcases own_form h with ⟨_, h0⟩ | ⟨g', c', rfl, _, _, hb, _⟩
    · omega
    · exact ⟨g', rfl, Nat.le_trans HG.size hb⟩
  rcases own_form HG.row with ⟨hv, h0⟩ | ⟨gb, c, hv, hc, hcm, hgB, hgl⟩
  · refine wpList_append_grows w hgd s x t ho e i0 z 1 bytes ht hi hz0 hz1 hz2 hz (by decide) none (n + m) 0 (List.replicate (n + m) X) (by rw [hs, hv, h0]) (fun _ => ⟨h0, rfl⟩) (by simp) (fun b hb => by cases hb)
      ⟨xb, 0, none⟩ 1 1 [X] hx rfl hnews hone (by omega) hm hl (fun v' w' h hg => hK v' w' (grow v' w' h hg))
  · by_cases hroom : n + m + 1 ≤ c
    · have hrow := HG.row
      rw [hv] at hrow
      refine wpList_append_fits w hgd s x t ho B e i0 1 ht hi hz1 gb (n + m) c (List.replicate (n + m) X) (by rw [hs, hv]) hrow ⟨xb, 0, none⟩ 1 1 [X] hx rfl hnews hone hroom (fun w' h hg => hK _ w' ?_)
      rw [hrep] at h
      refine ⟨h, ?_, ?_, hg.os.trans HG.os, hg.tape.trans HG.tape, hg.output.trans HG.output, Nat.le_trans HG.size hg.size, fun k hk hn => (hg.block k (Nat.lt_of_lt_of_le hk HG.size) (fun e => ?_)).trans (HG.block k hk hn)⟩
      · by_cases hvb : v0.ownBlock = some gb
        · rcases own_form HG.old with ⟨hv0, hn0⟩ | ⟨g0, c0, hv0, hc0, _⟩
          · rw [hv0] at hvb; simp [Value.ownBlock] at hvb
          · rw [hv0] at hvb
            simp only [Value.ownBlock, Option.some.injEq] at hvb
            subst hvb
            have hold := HG.old
            rw [hv0] at hold
            obtain rfl := own_caps hrow hold
            have := own_prefix (n := n) h (by omega)
            rw [List.take_replicate, Nat.min_eq_left (by omega)] at this
            rw [hv0]
            exact this
        · exact HG.old.kept hg (.inr hvb)
      · rcases HG.place with hp | ⟨k, hp, hk⟩
        · left; rw [← hp, hv]; rfl
        · right; exact ⟨k, by rw [← hp, hv]; rfl, hk⟩
      · injection e with e
        subst e
        rcases HG.place with hp | ⟨k', hp, hk'⟩
        · rw [hv] at hp; exact hn hp.symm
        · rw [hv] at hp
          simp only [Value.ownBlock, Option.some.injEq] at hp
          omega
    · refine wpList_append_grows w hgd s x t ho e i0 z 1 bytes ht hi hz0 hz1 hz2 hz (by decide) (some ⟨gb, 0, none⟩) (n + m) c (List.replicate (n + m) X) (by rw [hs, hv]) (fun h => by cases h) (by simp)
        (fun b hb j u hu => by
          injection hb with hb
          subst hb
          have := HG.row.cells (g := gb) (by rw [hv]; rfl) j u hu
          exact this)
        ⟨xb, 0, none⟩ 1 1 [X] hx rfl hnews hone (by omega) hm hl (fun v' w' h hg => hK v' w' (grow v' w' h hg))
structure Fam (w : World) (B : Nat) (e : TypeId) (K : Nat) (v : Nat → Value) (n : Nat → Nat) (xs : Nat → List Value) : Prop where
 row : ∀ i, i < K → w.ownsRow B e 1 (v i) (n i) (xs i)
 apart : ∀ i j k, i < K → j < K → (v i).ownBlock = some k → (v j).ownBlock = some k → i = j
structure Spared (w w' : World) (K : Nat) (v : Nat → Value) : Prop where
 os : w'.os = w.os
 tape : w'.tape = w.tape
 output : w'.output = w.output
 size : w.heap.size ≤ w'.heap.size
 block : ∀ k, k < w.heap.size → (∀ i, i < K → (v i).ownBlock ≠ some k) → w'.heap[k]? = w.heap[k]?
theorem Spared.refl (w : World) (K : Nat) (v : Nat → Value) : Spared w w K v := ⟨rfl, rfl, rfl, Nat.le_refl _, fun _ _ _ => rfl⟩
theorem Spared.alloc {w w' : World} {K : Nat} {v : Nat → Value} (h : Spared w w' K v) (o : Obj) : Spared w (w'.alloc o) K v :=
 ⟨h.os, h.tape, h.output, by have := h.size; simp; omega, fun k hk hn => (Below.heap_alloc w' o k (Nat.lt_of_lt_of_le hk h.size)).trans (h.block k hk hn)⟩
theorem Spared.drew {w w' : World} {K : Nat} {v : Nat → Value} (h : Spared w w' K v) : Spared w w'.drew K v := ⟨h.os, h.tape, h.output, h.size, h.block⟩
theorem Spared.below {w w' w2 : World} {K : Nat} {v : Nat → Value} (h : Spared w w' K v) (hb : Below w'.heap.size w' w2) : Spared w w2 K v :=
 ⟨hb.os.trans h.os, hb.tape.trans h.tape, hb.output.trans h.output, Nat.le_trans h.size hb.size, fun k hk hn => (hb.block k (Nat.lt_of_lt_of_le hk h.size)).trans (h.block k hk hn)⟩
theorem Spared.set {w w' : World} {K : Nat} {v : Nat → Value} (h : Spared w w' K v) (a : Addr) (u : Value) (ha : w.heap.size ≤ a.block ∨ ∃ i, i < K ∧ (v i).ownBlock = some a.block) : Spared w (w'.setCell a u) K v :=
 ⟨h.os, h.tape, h.output, by simpa [World.setCell] using h.size, fun k hk hn => (Below.heap_setCell w' a u k (fun e => by
  rcases ha with ha | ⟨i, hi, hv⟩
  ·omega
  ·exact hn i hi (by rw [hv, e]))).trans (h.block k hk hn)⟩
theorem Spared.grows {w W w' : World} {K : Nat} {v : Nat → Value} (h : Spared w W K v) {B : Nat} {e : TypeId} {X g : Value} {n m i : Nat} (hg : Grows W w' B e X (v i) g n m) (hi : i < K) : Spared w w' K v :=
 ⟨hg.os.trans h.os, hg.tape.trans h.tape, hg.output.trans h.output, Nat.le_trans h.size hg.size, fun k hk hn => (hg.block k (Nat.lt_of_lt_of_le hk h.size) (hn i hi)).trans (h.block k hk hn)⟩
theorem Spared.toBelow {w w' : World} {K : Nat} {v : Nat → Value} (h : Spared w w' K v) {B : Nat} (hB : B ≤ w.heap.size) (hv : ∀ i k, i < K → (v i).ownBlock = some k → B ≤ k) : Below B w w' :=
 ⟨h.os, h.tape, h.output, h.size, fun k hk => h.block k (by omega) (fun i hi e => by have := hv i k hi e; omega)⟩
theorem Spared.kept {w w' : World} {K : Nat} {v : Nat → Value} (h : Spared w w' K v) {B : Nat} {e : TypeId} {u : Value} {n : Nat} {xs : List Value} (hr : w.ownsRow B e 1 u n xs) (hn : ∀ i k, i < K → (v i).ownBlock = some k → u.ownBlock ≠ some k) : w'.ownsRow B e 1 u n xs := by
 rcases own_form hr with ⟨rfl, rfl⟩ | ⟨g, c, rfl, hc, hcm, hB, hg⟩
 ·obtain ⟨h1, h2⟩ := hr
  exact ⟨h1, .inl ⟨rfl, rfl⟩⟩
 ·have hb := h.block g hg (fun i hi e => hn i g hi e rfl)
  obtain ⟨h1, h2⟩ := hr
  rcases h2 with ⟨h', _⟩ | ⟨g', cap', cur, h', r⟩
  ·simp at h'
  ·simp only [Value.slice.injEq, Option.some.injEq, Addr.mk.injEq, and_true, true_and] at h'
   obtain ⟨rfl, rfl⟩ := h'
   exact ⟨h1, .inr ⟨g, c, cur, rfl, r.1, hb.trans r.2.1, r.2.2⟩⟩
theorem Grows.keeps {W w : World} {B : Nat} {e : TypeId} {X v0 g u : Value} {n m k : Nat} {xs : List Value} (h : Grows W w B e X v0 g n m) (hr : W.ownsRow B e 1 u k xs) (hn : ∀ b, v0.ownBlock = some b → u.ownBlock ≠ some b) : w.ownsRow B e 1 u k xs := by
 rcases own_form hr with ⟨rfl, rfl⟩ | ⟨gb, c, rfl, hc, hcm, hB, hg⟩
 ·obtain ⟨h1, h2⟩ := hr
  exact ⟨h1, .inl ⟨rfl, rfl⟩⟩
 ·have hb := h.block gb hg (fun e => hn gb e rfl)
  obtain ⟨h1, h2⟩ := hr
  rcases h2 with ⟨h', _⟩ | ⟨g', cap', cur, h', r⟩
  ·simp at h'
  ·simp only [Value.slice.injEq, Option.some.injEq, Addr.mk.injEq, and_true, true_and] at h'
   obtain ⟨rfl, rfl⟩ := h'
   exact ⟨h1, .inr ⟨gb, c, cur, rfl, r.1, hb.trans r.2.1, r.2.2⟩⟩
def part (X : Value) (j : Nat) (xs : List Value) : List Value := List.replicate j X ++ xs.drop j
theorem part_zero (X : Value) (xs : List Value) : part X 0 xs = xs := by simp [part]
theorem part_all (X : Value) (xs : List Value) (n : Nat) (h : xs.length = n) : part X n xs = List.replicate n X := by simp [part, ← h]
theorem part_set (X : Value) (xs : List Value) (j : Nat) (h : j < xs.length) : (part X j xs).set j X = part X (j + 1) xs := by
 unfold part; rw [List.set_append_right (h := by simp)]; rw [List.length_replicate, Nat.sub_self, List.drop_eq_getElem_cons h, List.set_cons_zero, List.replicate_succ', List.append_assoc]
 rfl
theorem own_shape2 {w : World} {B : Nat} {e : TypeId} {v : Value} {n : Nat} {xs : List Value} (h : w.ownsRow B e 1 v n xs) : ∃ A c, v = .slice A n c ∧ (0 < n → ∃ g, A = some ⟨g, 0, none⟩) := by
 rcases own_form h with ⟨rfl, rfl⟩ | ⟨g, c, rfl, _⟩
 ·exact ⟨none, 0, rfl, fun h => absurd h (Nat.lt_irrefl _)⟩
 ·exact ⟨_, c, rfl, fun _ => ⟨g, rfl⟩⟩
structure Stage (w wr : World) (B : Nat) (e eS : TypeId) (K L G : Nat) (v : Nat → Value) (n : Nat → Nat) (ys : Nat → List Value) (gs : List Value) : Prop where
 fam : Fam wr B e K v n ys
 cell : ∀ i, i < K → wr.cell? ⟨L, i, none⟩ = some (v i)
 grown : wr.ownsRow w.heap.size eS 1 (.slice (some ⟨G, 0, none⟩) K K) K gs
 spared : Spared w wr K v
section
variable {w wr : World} {B : Nat} {e eS : TypeId} {K L G : Nat} {v : Nat → Value} {n : Nat → Nat} {ys : Nat → List Value} {gs : List Value}
theorem Stage.base (h : Stage w wr B e eS K L G v n ys gs) : w.heap.size ≤ G ∧ G < wr.heap.size := h.grown.lt G rfl
theorem Stage.below (h : Stage w wr B e eS K L G v n ys gs) {w2 : World} (hb : Below wr.heap.size wr w2) : Stage w w2 B e eS K L G v n ys gs :=
 ⟨⟨fun i hi => own_below (h.fam.row i hi) hb, h.fam.apart⟩, fun i hi => (hb.cell (World.block_lt_of_cell? _ _ (h.cell i hi))).trans (h.cell i hi), own_below h.grown hb, h.spared.below hb⟩
theorem Stage.congr (h : Stage w wr B e eS K L G v n ys gs) {zs : Nat → List Value} (hz : ∀ t, t < K → zs t = ys t) : Stage w wr B e eS K L G v n zs gs :=
 ⟨⟨fun i hi => by rw [hz i hi]; exact h.fam.row i hi, h.fam.apart⟩, h.cell, h.grown, h.spared⟩
theorem Stage.store (h : Stage w wr B e eS K L G v n ys gs) {i j g c : Nat} (hi : i < K) (hv : v i = .slice (some ⟨g, 0, none⟩) (n i) c) (hvb : ∀ i b, i < K → (v i).ownBlock = some b → b < w.heap.size) (hL : ∀ i, i < K → (v i).ownBlock ≠ some L) (u : Value)
  {zs : Nat → List Value} (hz : ∀ k, k < K → zs k = if k = i then (ys i).set j u else ys k) : Stage w (wr.setCell ⟨g, j, none⟩ u) B e eS K L G v n zs gs := by
 have hb : (v i).ownBlock = some g := by rw [hv]; rfl
 have hg := hvb i g hi hb; have hG := h.base; refine ⟨⟨fun k hk => ?_, h.fam.apart⟩, fun k hk => ?_, ownsRow_setCell_other h.grown (by show some G ≠ some g; intro e; injection e with e; omega) u, h.spared.set _ _ (.inr ⟨i, hi, hb⟩)⟩
 ·rw [hz k hk]
  split
  ·rename_i e
   subst e; have := h.fam.row k hk; rw [hv] at this ⊢
   exact (this.stored j u).1
  ·rename_i hne
   exact ownsRow_setCell_other (h.fam.row k hk) (fun e => hne (h.fam.apart k i g hk hi e hb)) u
 ·rw [World.cell?_setCell_other (h := by
   intro e; injection e with e1
   exact hL i hi (by rw [hb, e1]))]
  exact h.cell k hk
theorem Stage.put (h : Stage w wr B e eS K L G v n ys gs) (hvb : ∀ i b, i < K → (v i).ownBlock = some b → b < w.heap.size) (hLG : L < w.heap.size) (i : Nat) (u : Value) : Stage w (wr.setCell ⟨G, i, none⟩ u) B e eS K L G v n ys (gs.set i u) := by
 have hG := h.base; refine ⟨⟨fun k hk => ownsRow_setCell_other (h.fam.row k hk) (fun e => by have := hvb k G hk e; omega) u, h.fam.apart⟩, fun k hk => ?_, (h.grown.stored i u).1, h.spared.set _ _ (.inl hG.1)⟩
 rw [World.cell?_setCell_other (h := by
  intro e; injection e with e1
  omega)]
 exact h.cell k hk
theorem Stage.grow (h : Stage w wr B e eS K L G v n ys gs) {i m : Nat} {X g : Value} {w2 : World} (hi : i < K) (hg : Grows wr w2 B e X (v i) g (n i) m) (hX : ys i = List.replicate (n i) X) (hvb : ∀ i b, i < K → (v i).ownBlock = some b → b < w.heap.size)
  (hL : ∀ i, i < K → (v i).ownBlock ≠ some L) (hLG : L < w.heap.size) : Stage w w2 B e eS K L G v n ys gs := by
 have hG := h.base; refine ⟨⟨fun k hk => ?_, h.fam.apart⟩, fun k hk => ?_, ?_, h.spared.grows hg hi⟩
 ·by_cases hki : k = i
  ·subst hki; rw [hX]; exact hg.old
  ·exact hg.keeps (h.fam.row k hk) (fun b hb e => hki (h.fam.apart k i b hk hi e hb))
 ·have hs := h.spared.size
  exact (World.cell?_of_block (a := ⟨L, k, none⟩) (hg.block L (by omega) (hL i hi))).trans (h.cell k hk)
 ·have hb := hg.block G hG.2 (fun e => by have := hvb i G hi e; omega)
  obtain ⟨h1, h2⟩ := h.grown
  rcases h2 with ⟨h', _⟩ | ⟨g', cap', cur, h', r⟩
  ·simp at h'
  ·simp only [Value.slice.injEq, Option.some.injEq, Addr.mk.injEq, and_true, true_and] at h'
   obtain ⟨rfl, rfl⟩ := h'
   exact ⟨h1, .inr ⟨G, K, cur, rfl, r.1, hb.trans r.2.1, r.2.2⟩⟩
def Grew (wr : World) (B : Nat) (e : TypeId) (M H : Nat) (v : Nat → Value) (n : Nat → Nat) (X : Nat → Value) (i : Nat) (gs : List Value) : Prop :=
 ∀ j, j < i → ∃ g, gs[j]? = some g ∧ wr.ownsRow B e 1 g (n j + M) (List.replicate (n j + M) (X j)) ∧ (g.ownBlock = (v j).ownBlock ∨ ∃ b, g.ownBlock = some b ∧ H ≤ b)
theorem Grew.below {M H i : Nat} {X : Nat → Value} (h : Grew wr B e M H v n X i gs) {w2 : World} (hb : Below wr.heap.size wr w2) : Grew w2 B e M H v n X i gs := fun j hj => by
 obtain ⟨g, h1, h2, h3⟩ := h j hj
 exact ⟨g, h1, own_below h2 hb, h3⟩
theorem Grew.next {M H i : Nat} {X : Nat → Value} {w2 : World} {g : Value} (h : Grew wr B e M H v n X i gs) (hs : Stage w wr B e eS K L G v n ys gs) (hi : i < K) (hg : Grows wr w2 B e (X i) (v i) g (n i) M) (hvb : ∀ i b, i < K → (v i).ownBlock = some b → b < w.heap.size)
  (hwH : w.heap.size ≤ H) (hGH : G < H) (hH : H ≤ wr.heap.size) : Grew (w2.setCell ⟨G, i, none⟩ g) B e M H v n X (i + 1) (gs.set i g) := by
 have hG := hs.base
 have hlen : gs.length = K := by have := hs.grown.1; omega
 intro j hj
 by_cases hji : j = i
 ·subst hji
  refine ⟨g, by rw [List.getElem?_set_self (by omega)], ?_, ?_⟩
  ·refine ownsRow_setCell_other hg.row (fun e => ?_) g
   rcases hg.place with hp | ⟨b, hp, hb⟩
   ·rw [hp] at e; have := hvb j G hi e; omega
   ·rw [hp] at e; have e : b = G := by injection e
    omega
  ·rcases hg.place with hp | ⟨b, hp, hb⟩
   ·exact .inl hp
   ·exact .inr ⟨b, hp, by omega⟩
 ·obtain ⟨u, h1, h2, h3⟩ := h j (by omega)
  refine ⟨u, by rw [List.getElem?_set_ne (fun e => hji e.symm)]; exact h1, ?_, h3⟩; refine ownsRow_setCell_other (hg.keeps h2 (fun b hb e => ?_)) (fun e => ?_) g
  ·rcases h3 with h3 | ⟨b', h3, hb'⟩
   ·rw [h3] at e; exact hji (hs.fam.apart j i b (by omega) hi e hb)
   ·rw [h3] at e; injection e with e; have := hvb i b hi hb; omega
  ·rcases h3 with h3 | ⟨b', h3, hb'⟩
   ·rw [h3] at e; have := hvb j G (by omega) e; omega
   ·rw [h3] at e; have e : b' = G := by injection e
    omega
end
end Go.Proofs.YtajplppeijmfpaaDoor.Ap

namespace Go.Proofs.YtajplppeijmfpaaDoor.Pt
open Go Go.RowKit Go.Proofs.YtajplppeijmfpaaDoorW.PrintWords Go.Proofs.YtajplppeijmfpaaDoorW.PrintLast Go.Proofs.YtajplppeijmfpaaDoorW.PrintMore
theorem pX {P : Program} {ops : Array Oper} {Q : Exit → Act → World → Prop} {md : Region.Mode} {S : World → Prop} {ds : List Nat} {T : Bool × List (List Nat × List Nat)} (HT : Aside0 (rtab md ops = T)) (i : Nat) (N : Option Tmp) {oi : Oper} {v : Value} {fuel : Nat} {l : Array Bool} {a a' : Act} {w : World} (h : wpAnyLast P md ops Q S ds fuel (l.setIfInBounds i true) a' w) (hi : ops[i]? = some oi := by exact rfl) (hN : oi.dst = N := by exact rfl) (hT : anyT T l.toList (l.setIfInBounds i true).toList i = true := by kernel_rfl) (hQ : ∀ (c : List PanicEntry) (a : Act) (w : World), Q (.panic c) (a.put oi.dst v) w → Q (.panic c) a w := by exact fun _ _ _ h => h) (hy : Yields P ops oi v a := by (refine Or.inl ⟨by rfl, ?_⟩; intro w'; go_simp; with_reducible rfl)) (ha : a.put N v = a' := by (simp only [Act.put, List.setIfInBounds_toArray, List.set_cons_zero, List.set_cons_succ, i64_w, i32_w]; rfl)) : wpAnyLast P md ops Q S ds (fuel + 1) l a w := pure_ _ hi hN (any_of HT.out hT) hQ hy ha h
theorem uX {P : Program} {ops : Array Oper} {Q : Exit → Act → World → Prop} {md : Region.Mode} {S : World → Prop} {ds : List Nat} {T : Bool × List (List Nat × List Nat)} (HT : Aside0 (rtab md ops = T)) (i : Nat) (N : Option Tmp) {oi : Oper} {fuel : Nat} {l : Array Bool} {a a' : Act} {w : World} (h : wpAnyLast P md ops Q S ds fuel (l.setIfInBounds i true) a' w) (hi : ops[i]? = some oi := by exact rfl) (hN : oi.dst = N := by exact rfl) (hT : anyT T l.toList (l.setIfInBounds i true).toList i = true := by kernel_rfl) (hQ : ∀ (c : List PanicEntry) (a : Act) (w : World), Q (.panic c) (a.put oi.dst undef) w → Q (.panic c) a w := by exact fun _ _ _ h => h) (hy : Yields P ops oi undef a := by (refine Or.inr ⟨by rfl, rfl⟩)) (ha : a.put N undef = a' := by (simp only [Act.put, List.setIfInBounds_toArray, List.set_cons_zero, List.set_cons_succ, i64_w, i32_w]; rfl)) : wpAnyLast P md ops Q S ds (fuel + 1) l a w := pure_ _ hi hN (any_of HT.out hT) hQ hy ha h
theorem tX {P : Program} {ops : Array Oper} {Q : Exit → Act → World → Prop} {md : Region.Mode} {S : World → Prop} {ds : List Nat} {T : Bool × List (List Nat × List Nat)} {B : List Nat} (HT : Aside0 (rtab md ops = T)) (HW : Aside0 (waitsOk T.2 B = true)) {w : World} (hS : S w) (i : Nat) (N : Option Tmp) {oi : Oper} {v : Value} {fuel : Nat} {l : Array Bool} {a a' : Act} (h : wpAnyLast P md ops Q S ds fuel (l.setIfInBounds i true) a' w) (hi : ops[i]? = some oi := by exact rfl) (hN : oi.dst = N := by exact rfl) (hT : takeW T B ds l.toList (l.setIfInBounds i true).toList i = true := by kernel_rfl) (hQ : ∀ (c : List PanicEntry) (a : Act) (w : World), Q (.panic c) (a.put oi.dst v) w → Q (.panic c) a w := by exact fun _ _ _ h => h) (hy : YieldsIf P ops S oi v a := by (refine Or.inl ⟨by rfl, ?_⟩; intro w' hs_; (repeat (have s_ := And.left hs_; replace hs_ := And.right hs_)); go_simp; with_reducible rfl)) (ha : a.put N v = a' := by (simp only [Act.put, List.setIfInBounds_toArray, List.set_cons_zero, List.set_cons_succ, i64_w, i32_w]; rfl)) : wpAnyLast P md ops Q S ds (fuel + 1) l a w := take_ _ hi hN (take_ofW HT.out HW.out hT) hQ hy hS ha h
theorem oX {P : Program} {ops : Array Oper} {Q : Exit → Act → World → Prop} {md : Region.Mode} {S : World → Prop} {ds : List Nat} {T : Bool × List (List Nat × List Nat)} (HT : Aside0 (rtab md ops = T)) (i : Nat) (N : Option Tmp) {oi : Oper} {fuel : Nat} {l : Array Bool} {a : Act} {w : World} (h : ∀ (K : Act → World → Prop), Shut (∀ (a' : Act) (w' : World), S w' → (S w' → wpAnyLast P md ops Q S ds fuel (l.setIfInBounds i true) a' w') → K a' w') → if Region.wanted oi (yielded ops a.tmps) = true then Oper.wp P oi a w K Q else K (a.put N undef) w) (hi : ops[i]? = some oi := by exact rfl) (hN : oi.dst = N := by exact rfl) (hT : (readyT T.2 l.toList == [i] && l.toList.set i true == (l.setIfInBounds i true).toList) = true := by kernel_rfl) (hd : i ∉ ds := by decide) : wpAnyLast P md ops Q S ds (fuel + 1) l a w := one_ _ hi hN (one_of HT.out hT) hd h
theorem nX {P : Program} {ops : Array Oper} {Q : Exit → Act → World → Prop} {md : Region.Mode} {S : World → Prop} {ds : List Nat} (N : Option Tmp) {v : Value} {fuel : Nat} {l : Array Bool} {a a' : Act} {w : World} (h : wpAnyLast P md ops Q S ds fuel l a' w) (ha : a.put N v = a' := by (simp only [Act.put, List.setIfInBounds_toArray, List.set_cons_zero, List.set_cons_succ, i64_w, i32_w]; rfl)) : wpAnyLast P md ops Q S ds fuel l (a.put N v) w := norm_ ha h
theorem hX {P : Program} {ops : Array Oper} {Q : Exit → Act → World → Prop} {oi : Oper} {N : Option Tmp} {a : Act} {w : World} {K : Act → World → Prop} {f : FuncId} {fn : Func} {os : Array Operand} {ts : Array TypeId} (hf : P.funcs[f]? = some fn) (args : Array Value) (h : Calls P f args w fun e w' => ∃ v, e = .returned v ∧ K (a.put N v) w') (hname : (fn.name == "runtime.NumGoroutine") = false := by kernel_rfl) (hb : fn.body.isSome = true := by exact rfl) (hw : Region.wanted oi (yielded ops a.tmps) = true := by rfl) (hN : oi.dst = N := by exact rfl) (hop : oi.op = .call { callee := .value (.func f), args := os, argTypes := ts } := by exact rfl) (hargs : os.map a.eval = args := by ((try simp only [List.map_toArray, List.map_cons, List.map_nil]); first | done | rfl | (simp only [List.length_drop, List.length_take]; rfl))) : if Region.wanted oi (yielded ops a.tmps) = true then Oper.wp P oi a w K Q else K (a.put N undef) w := goes_ hf hname hb args hw hN hop hargs h
end Go.Proofs.YtajplppeijmfpaaDoor.Pt

namespace Go.Proofs.YtajplppeijmfpaaDoor.Ap
open Go Go.RowKit Go.Proofs.YtajplppeijmfpaaDoor.Pt Go.Proofs.YtajplppeijmfpaaDoorW.PrintWords Go.Proofs.YtajplppeijmfpaaDoorW.PrintLast Go.Proofs.YtajplppeijmfpaaDoorW.PrintMore
set_option linter.unusedVariables false
set_option linter.unusedSimpArgs false
theorem infoI : (Tryd.prog.info? 9).map (fun i => (i.zero, i.size, i.bytes)) = some (some (.string ⟨#[]⟩), 1, 16) := by kernel_rfl
theorem infoII : (Tryd.prog.info? 32).map (fun i => (i.zero, i.size, i.bytes)) = some (some (.slice none 0 0), 1, 24) := by kernel_rfl
def sg (i : Nat) : ByteArray := ⟨#[35, UInt8.ofNat i, 0]⟩
def mk (i : Nat) : Value := .string (sg i)
set_option maxRecDepth 100000 in
theorem sign_any (i : Nat) (hi : i < 200) (w : World) : Calls Tryd.prog 48 #[.int .i64 (i : Int)] w fun e w' => e = .returned (.string (sg i)) ∧ Below w.heap.size w w' := by
 have h0 : ((i : Int) / 256) = 0 := by omega
 have hu : (UInt8.ofNat i).toNat = i := by simp; omega
 have hcv : (convert 65 9 (.slice (some ⟨w.heap.size, 0, none⟩) 3 3)).run Tryd.prog (w.alloc (.cells #[.int .u8 35, .int .u8 (i : Int), .int .u8 0] 5)) = .ok (.string (sg i)) (w.alloc (.cells #[.int .u8 35, .int .u8 (i : Int), .int .u8 0] 5)) := run_convert_bytes_back (P := Tryd.prog) (w.alloc (.cells #[.int .u8 35, .int .u8 (i : Int), .int .u8 0] 5)) 65 9 5 ⟨w.heap.size, 0, none⟩ 3 [35, UInt8.ofNat i, 0] Tryd.underlying65 Tryd.underlying5 Tryd.underlying9
  (fun j hj => by
   rw [Addr.add_lit, cell_new]; have hj : j < 3 := hj
   match j, hj with
   | 0, _ => rfl
   | 1, _ => simp [hu]
   | 2, _ => rfl)
 go_enter Tryd.func48, Tryd.ntmps48; go_wp2; go_ret
 exact ⟨rfl, (Below.refl _ w).alloc (Nat.le_refl _) _⟩
def tatT24 : Bool × List (List Nat × List Nat) := (true, [([], []), ([], []), ([0, 1], [0, 1]), ([2], [2]), ([], []), ([3, 4], [3, 4]), ([5], [5]), ([], []), ([7], [7]), ([6, 8], [6, 8]), ([9, 8], [9]), ([10], [10]), ([10], [10]), ([10], [10]), ([12, 13, 10], [10, 12, 13]), ([14, 10], [10, 14]), ([15, 10], [10, 15]), ([11, 16, 10], [10, 11, 16]), ([17, 10, 10], [10, 17]), ([18], [18]), ([18], [18]), ([19, 20, 18], [18, 19, 20]), ([21, 18], [18, 21]), ([18], [18]), ([22, 23, 18], [18, 22, 23]), ([24, 18], [18, 24]), ([18], [18]), ([26, 18, 18], [18, 26]), ([25, 27, 18], [18, 25, 27]), ([18, 28, 10], [10, 18, 28]), ([10, 29], [10, 29])])
def tatB24 : List Nat := [0, 0, 3, 7, 0, 31, 63, 0, 128, 511, 1023, 2047, 2047, 2047, 14335, 30719, 63487, 131071, 262143, 524287, 524287, 2097151, 4194303, 524287, 16777215, 33554431, 524287, 67633151, 268435455, 536870911, 1073741823]
theorem tattab24 : rtab .any (opsOf Tryd.f21 24) = tatT24 := by kernel_rfl
theorem tatbits24 : waitsOk tatT24.2 tatB24 = true := by kernel_rfl
set_option maxRecDepth 100000 in
set_option maxHeartbeats 1000000 in
theorem textsApart_any (w : World) (B K L c : Nat) (v : Nat → Value) (n : Nat → Nat) (xs : Nat → List Value) (HF : Fam w B 9 K v n xs) (hcell : ∀ i, i < K → w.cell? ⟨L, i, none⟩ = some (v i))
  (hL : ∀ i, i < K → (v i).ownBlock ≠ some L) (hLs : L < w.heap.size) (hK : K ≤ 100) (hn : ∀ i, i < K → n i ≤ 2000000) (hB : B ≤ w.heap.size) :
  Calls Tryd.prog 21 #[.slice (some ⟨L, 0, none⟩) K c] w fun e w' => e = .returned (.bool true) ∧ Spared w w' K v := by
 replace HF := Lib.hid HF; replace hcell := Lib.hid hcell; replace hL := Lib.hid hL; replace hn := Lib.hid hn; obtain ⟨iII, hII, hz⟩ := Option.map_eq_some_iff.1 infoII; simp only [Prod.mk.injEq] at hz; obtain ⟨hz0, hz1, hz2⟩ := hz; obtain ⟨w1, hmk, hG, hg1⟩ := run_makeSlice_full (P := Tryd.prog) w w.heap.size 37 32 iII (.slice none 0 0) 1 Tryd.underlying37 hII hz0 hz1 .i64 .i64 K (by omega) (by rw [hz2]; omega) (by simp only [maxLen]; omega) (Nat.le_refl _)
 have hb1 : Below w.heap.size w w1 := ⟨hg1.os, hg1.tape, hg1.output, hg1.size, fun k hk => hg1.block k hk (by simp)⟩
 have hvb : ∀ i b, i < K → (v i).ownBlock = some b → b < w.heap.size := fun i b hi hb => ((HF.out.row i hi).lt b hb).2
 have hz1 : (madeCells (Value.slice none 0 0).cells (K * 1)).toList.length = K := by have := hG.1; omega
 obtain ⟨zs, hzs⟩ : ∃ zs, (madeCells (Value.slice none 0 0).cells (K * 1)).toList = zs := ⟨_, rfl⟩
 rw [hzs] at hG hz1
 have S1 : Stage w w1 B 9 32 K L w.heap.size v n xs zs :=
  ⟨⟨fun i hi => kept_none (HF.out.row i hi) hg1, HF.out.apart⟩, fun i hi => hg1.cell (hcell.out i hi) (by simp), hG, (Spared.refl w K v).below hb1⟩
 have hsz1 : w.heap.size < w1.heap.size := S1.base.2
 have hlen : ∀ i, i < K → (xs i).length = n i := fun i hi => by have := (HF.out.row i hi).1; omega
 replace S1 := Lib.hid S1; replace hvb := Lib.hid hvb; replace hlen := Lib.hid hlen; clear hb1 hg1 hz0 hz2 hcell hG hzs HF; go_enter Tryd.func21, Tryd.ntmps21; go_wp2_with fail
 go_loopw [4] (fun i wr => ∃ k : Nat, k ≤ K ∧ i = .int .i64 k ∧ w1.heap.size ≤ wr.heap.size ∧ Stage w wr B 9 32 K L w.heap.size v n (fun t => if t < k then List.replicate (n t) (mk t) else xs t) zs) (fun i _ => K - (intOf i).toNat)
 case atStart => exact ⟨0, Nat.zero_le _, rfl, Nat.le_refl _, S1.out⟩
 case round =>
  obtain ⟨k, hk, rfl, hzr, hS⟩ := hrel; have S := Lib.hid hS; clear hS S1
  by_cases hlt : k < K
  ·obtain ⟨A, cp, hvk, hA⟩ := own_shape2 (S.out.fam.row k hlt)
   have hnk := hn.out k hlt; have hlk := hlen.out k hlt; go_wp2_with fail
   go_loopw [5] (fun i wr2 => ∃ j : Nat, j ≤ n k ∧ i = .int .i64 j ∧ w1.heap.size ≤ wr2.heap.size ∧ Stage w wr2 B 9 32 K L w.heap.size v n (fun t => if t < k then List.replicate (n t) (mk t) else if t = k then part (mk k) j (xs t) else xs t) zs) (fun i _ => n k - (intOf i).toNat)
   case atStart =>
    refine ⟨0, Nat.zero_le _, rfl, hzr, ?_⟩
    have : (fun t => if t < k then List.replicate (n t) (mk t) else if t = k then part (mk k) 0 (xs t) else xs t) = (fun t => if t < k then List.replicate (n t) (mk t) else xs t) := by
     funext t
     simp [part_zero]
    rw [this]
    exact S.out
   case round =>
    obtain ⟨j, hj, rfl, hzr2, hS2⟩ := hrel; have q1 := hS2.cell k hlt; rw [hvk] at q1; have S2 := Lib.hid hS2; clear hS2 S
    by_cases hjn : j < n k
    ·obtain ⟨g, rfl⟩ := hA (by omega)
     have hrow := S2.out.fam.row k hlt; simp only [Nat.lt_irrefl, if_false, if_true] at hrow; rw [hvk] at hrow
     have q2 : (wr.cell? ⟨g, j, none⟩).isSome = true := by
      rw [hrow.cellAt j (by omega), List.getElem?_eq_getElem (by have := hrow.1; omega)]
      rfl
     have q3 := hrow.frozenAt j; obtain ⟨old, q2⟩ := Option.isSome_iff_exists.1 q2; clear hrow; have SG := Lib.hid (sign_any k (by omega)); go_wp2_with fail
     go_region_with (go_at_call 48; refine (SG.out _).mono ?_; rintro e w3 ⟨rfl, hb3⟩; have hb4 : Below wr.heap.size wr w3 := ⟨hb3.os, hb3.tape, hb3.output, hb3.size, hb3.block⟩; have f1 : w3.cell? ⟨L, k, none⟩ = some (.slice (some ⟨g, 0, none⟩) (n k) cp) := bl_cell hb3 q1; have f2 : w3.cell? ⟨g, j, none⟩ = some old := bl_cell hb3 q2; have f3 : w3.frozen? ⟨g, j, none⟩ = false := (hb3.frozen (World.block_lt_of_cell? _ _ q2)).trans q3)
     all_goals
      go_wp2_with fail; have hsz4 := hb4.size; refine ⟨⟨j + 1, by omega, by go_num, by simp; omega, (S2.out.below hb4).store hlt hvk hvb.out hL.out _ (fun t ht => ?_)⟩, by simp [intOf]; omega⟩
      by_cases htk : t = k
      ·subst htk
       simp only [Nat.lt_irrefl, if_false, if_true]
       exact (part_set (mk t) (xs t) j (by omega)).symm
      ·simp only [if_neg htk]
    ·obtain rfl : j = n k := by omega
     go_wp2_with fail; refine ⟨⟨k + 1, by omega, by go_num, hzr2, S2.out.congr (fun t ht => ?_)⟩, by simp [intOf]; omega⟩
     by_cases htk : t = k
     ·subst htk
      simp only [Nat.lt_irrefl, if_false, if_true, Nat.lt_succ_self]
      exact (part_all (mk t) (xs t) (n t) hlk).symm
     ·simp only [if_neg htk, show t < k + 1 ↔ t < k by omega]
  ·obtain rfl : K = k := by omega
   have S2 := Lib.hid (S.out.congr (zs := fun t => List.replicate (n t) (mk t)) (fun t ht => by simp only [if_pos ht])); clear S; go_wp2_with fail
   go_loopw [6] (fun i wr2 => ∃ (k : Nat) (gs : List Value), k ≤ K ∧ i = .int .i64 k ∧ w1.heap.size ≤ wr2.heap.size ∧ Stage w wr2 B 9 32 K L w.heap.size v n (fun t => List.replicate (n t) (mk t)) gs ∧ Grew wr2 B 9 70 w1.heap.size v n mk k gs) (fun i _ => K - (intOf i).toNat)
   case atStart => exact ⟨0, zs, Nat.zero_le _, rfl, hzr, S2.out, fun j hj => absurd hj (Nat.not_lt_zero _)⟩
   case round =>
    obtain ⟨wo, rfl⟩ : ∃ x, x = wr := ⟨wr, rfl⟩
    obtain ⟨k, gs, hk, rfl, hzr2, hS3, hgr⟩ := hrel; have S := Lib.hid hS3; have GR := Lib.hid hgr; clear hS3 hgr S2 hzr
    by_cases hlt : k < K
    ·obtain ⟨A, cp, hvk, hA⟩ := own_shape2 (S.out.fam.row k hlt)
     have q1 := S.out.cell k hlt; rw [hvk] at q1; have hnk := hn.out k hlt; have hst := Grows.start (S.out.fam.row k hlt)
     have hBr : B ≤ wo.heap.size := by omega
     go_wp2_with fail
     go_loopw [7, 8] (fun gv i wr2 => ∃ m : Nat, m ≤ 70 ∧ i = .int .i64 m ∧ Grows wo wr2 B 9 (mk k) (v k) gv (n k) m) (fun _ i _ => 70 - (intOf i).toNat)
     case atStart => exact ⟨0, Nat.zero_le _, rfl, by rw [← hvk]; exact hst⟩
     case round =>
      obtain ⟨m, hm, rfl, hg⟩ := hrel; have HG := Lib.hid hg; clear hg hst
      by_cases hm70 : m < 70
      ·have SG := Lib.hid (sign_any k (by omega))
       go_wp2_with (first
        | (go_at_call 48; refine (SG.out _).mono ?_; rintro e w3 ⟨rfl, hb3⟩; have HG2 := Lib.hid (HG.out.below hb3))
        | (at_builtin; go_loud (refine wp_grows rfl _ _ 32 9 (.string ⟨#[]⟩) 16 rfl Tryd.underlying32 infoI rfl (HG2.out.alloc _) hBr rfl _ rfl ((cell_new _ _ _ _).trans rfl) rfl (by simp only [maxLen]; omega) (by omega) ?_); intro g1 w4 hg1))
       exact ⟨⟨m + 1, by omega, by go_num, hg1⟩, by simp [intOf]; omega⟩
      ·obtain rfl : m = 70 := by omega
       obtain ⟨A', cp', hgv, hA'⟩ := own_shape2 HG.out.row; subst hgv; have S4 := S.out.grow hlt HG.out rfl hvb.out hL.out hLs
       have hlz : gs.length = K := by have := S4.grown.1; omega
       have q4 : (wr.cell? ⟨w.heap.size, k, none⟩).isSome = true := by
        rw [S4.grown.cellAt k (by omega), List.getElem?_eq_getElem (by omega)]
        rfl
       have q5 := S4.grown.frozenAt k; obtain ⟨old, q4⟩ := Option.isSome_iff_exists.1 q4; have S5 := Lib.hid (S4.put hvb.out hLs k (.slice A' (n k + 70) cp')); have G5 := Lib.hid (GR.out.next S.out hlt HG.out hvb.out (by omega) hsz1 hzr2); have hz5 := HG.out.size; clear S4; go_wp2_with fail
       exact ⟨⟨k + 1, _, by omega, by go_num, by simp; omega, S5.out, G5.out⟩, by simp [intOf]; omega⟩
    ·obtain rfl : K = k := by omega
     obtain ⟨wf, rfl⟩ : ∃ x, x = wo := ⟨wo, rfl⟩
     go_wp2_with fail
     go_loopw [9] (fun i wr2 => ∃ k : Nat, k ≤ K ∧ i = .int .i64 k ∧ Below wf.heap.size wf wr2) (fun i _ => K - (intOf i).toNat)
     case atStart => exact ⟨0, Nat.zero_le _, rfl, Below.refl _ _⟩
     case round =>
      obtain ⟨k, hk, rfl, hbw0⟩ := hrel; have hbw := Lib.hid hbw0; clear hbw0
      by_cases hlt : k < K
      ·obtain ⟨gv, y1, y2, y3⟩ := GR.out k hlt
       obtain ⟨A', cp', hgv, hA'⟩ := own_shape2 y2
       have x1' : wf.cell? ⟨w.heap.size, k, none⟩ = some gv := by
        rw [S.out.grown.cellAt k (by omega)]; exact y1
       rw [hgv] at x1'; obtain ⟨A, cp, hvk, hA⟩ := own_shape2 (S.out.fam.row k hlt); have x2' := S.out.cell k hlt; rw [hvk] at x2'; have x1 := bl_cell hbw.out x1'; have x2 := bl_cell hbw.out x2'; have hnk := hn.out k hlt; have SG := Lib.hid (sign_any k (by omega)); go_wp2_with fail
       go_loopw [10] (fun i wr2 => ∃ j : Nat, j ≤ n k + 70 ∧ i = .int .i64 j ∧ Below wf.heap.size wf wr2) (fun i _ => n k + 70 - (intOf i).toNat)
       case atStart => exact ⟨0, Nat.zero_le _, rfl, hbw.out⟩
       case round =>
        obtain ⟨j, hj, rfl, hbw0⟩ := hrel; clear hbw x1 x2; have hbw := Lib.hid hbw0; clear hbw0; have x1 := bl_cell hbw.out x1'; have x2 := bl_cell hbw.out x2'
        by_cases hj1 : j < n k + 70
        ·obtain ⟨gg, rfl⟩ := hA' (by omega)
         have x3' : wf.cell? ⟨gg, j, none⟩ = some (.string (sg k)) := by
          rw [hgv] at y2; rw [y2.cellAt j (by omega), List.getElem?_replicate, if_pos hj1]; rfl
         have x3 := bl_cell hbw.out x3'
         by_cases hj2 : j < n k
         ·obtain ⟨g0, rfl⟩ := hA (by omega)
          have x4' : wf.cell? ⟨g0, j, none⟩ = some (.string (sg k)) := by
           have hrow := S.out.fam.row k hlt; rw [hvk] at hrow; rw [hrow.cellAt j (by omega), List.getElem?_replicate, if_pos hj2]; rfl
          have x4 := bl_cell hbw.out x4'; have t1 : decide (j < n k) = true := decide_eq_true hj2; have t2 : decide ((j : Int) < (n k : Int)) = true := decide_eq_true (by omega); go_wp2_with fail; refine start_ (n := 31) (S := fun w' => w'.cell? ⟨w.heap.size, k, none⟩ = some (.slice (some ⟨gg, 0, none⟩) (n k + 70) cp') ∧ w'.cell? ⟨gg, j, none⟩ = some (.string (sg k)) ∧ w'.cell? ⟨L, k, none⟩ = some (.slice (some ⟨g0, 0, none⟩) (n k) cp) ∧ w'.cell? ⟨g0, j, none⟩ = some (.string (sg k))) (ds := []) (Array.replicate 31 false) (by kernel_rfl) rfl rfl ⟨x1, x3, x2, x4⟩ (fun hHeld => ?_); refine with_tabW tattab24 tatbits24 (fun HT_ HW_ => ?_); have z1 : wr.drew.cell? ⟨w.heap.size, k, none⟩ = some (.slice (some ⟨gg, 0, none⟩) (n k + 70) cp') := x1; have z2 : wr.drew.cell? ⟨L, k, none⟩ = some (.slice (some ⟨g0, 0, none⟩) (n k) cp) := x2; have z3 : wr.drew.cell? ⟨gg, j, none⟩ = some (.string (sg k)) := x3; have z4 : wr.drew.cell? ⟨g0, j, none⟩ = some (.string (sg k)) := x4; have HZ : Hid (Below wf.heap.size wf wr.drew) := Lib.hid ⟨hbw.out.os, hbw.out.tape, hbw.out.output, hbw.out.size, hbw.out.block⟩; clear x1 x2 x3 x4; generalize wr.drew = w3 at *; refine pX HT_ 0 (some 75) ?_; refine pX HT_ 1 (some 76) ?_; refine pX HT_ 2 (some 77) ?_; refine tX HT_ HW_ hHeld 3 (some 78) ?_; refine pX HT_ 4 (some 79) ?_; refine pX HT_ 5 (some 80) ?_; refine tX HT_ HW_ hHeld 6 (some 81) ?_; refine pX HT_ 7 (some 82) ?_; refine oX HT_ 8 (some 83) (fun K hK => ?_); refine hX Tryd.func48 #[.int .i64 (k : Int)] ?_; refine (SG.out w3).mono ?_; rintro e w4 ⟨rfl, hb4⟩; refine ⟨_, rfl, ?_⟩; replace z1 := bl_cell hb4 z1; replace z2 := bl_cell hb4 z2; replace z3 := bl_cell hb4 z3; replace z4 := bl_cell hb4 z4; replace HZ := Lib.hid (HZ.out.trans (hb4.mono HZ.out.size)); refine hK.out _ _ ⟨z1, z3, z2, z4⟩ (fun hHeld => ?_); clear hK K hb4; refine nX (some 83) ?_; refine pX (v := .bool false) HT_ 9 (some 84) ?_ (hy := Or.inl ⟨by rfl, by intro w'; first | (go_simp; done) | (go_simp; rfl)⟩); refine pX (v := .bool false) HT_ 10 (some 85) ?_ (hy := Or.inl ⟨by rfl, by intro w'; first | (go_simp; done) | (go_simp; rfl)⟩); refine pX HT_ 11 (some 86) ?_; refine pX HT_ 12 (some 87) ?_; refine pX HT_ 13 (some 88) ?_; refine pX HT_ 14 (some 89) ?_; refine tX HT_ HW_ hHeld 15 (some 90) ?_; refine pX HT_ 16 (some 91) ?_; refine pX (v := .bool true) HT_ 17 (some 92) ?_ (hy := Or.inl ⟨by rfl, by intro w'; first | (go_simp; done) | (go_simp; rfl)⟩); refine pX (v := .bool true) HT_ 18 (some 93) ?_ (hy := Or.inl ⟨by rfl, by intro w'; first | (go_simp; done) | (go_simp; rfl)⟩); refine pX HT_ 19 (some 94) ?_; refine pX HT_ 20 (some 95) ?_; refine pX HT_ 21 (some 96) ?_; refine tX HT_ HW_ hHeld 22 (some 97) ?_; refine pX HT_ 23 (some 98) ?_; refine pX HT_ 24 (some 99) ?_; refine tX HT_ HW_ hHeld 25 (some 100) ?_; refine pX HT_ 26 (some 101) ?_; refine oX HT_ 27 (some 102) (fun K hK => ?_); refine hX Tryd.func48 #[.int .i64 (k : Int)] ?_; refine (SG.out w4).mono ?_; rintro e w5 ⟨rfl, hb4⟩; refine ⟨_, rfl, ?_⟩; replace z1 := bl_cell hb4 z1; replace z2 := bl_cell hb4 z2; replace z3 := bl_cell hb4 z3; replace z4 := bl_cell hb4 z4; replace HZ := Lib.hid (HZ.out.trans (hb4.mono HZ.out.size)); refine hK.out _ _ ⟨z1, z3, z2, z4⟩ (fun hHeld => ?_); clear hK K hb4; refine nX (some 102) ?_; refine pX (v := .bool false) HT_ 28 (some 103) ?_ (hy := Or.inl ⟨by rfl, by intro w'; first | (go_simp; done) | (go_simp; rfl)⟩); refine pX (v := .bool false) HT_ 29 (some 104) ?_ (hy := Or.inl ⟨by rfl, by intro w'; first | (go_simp; done) | (go_simp; rfl)⟩); refine pX (v := .bool false) HT_ 30 (some 105) ?_ (hy := Or.inl ⟨by rfl, by intro w'; first | (go_simp; done) | (go_simp; rfl)⟩); refine done_ (done_of HT_.out (by kernel_rfl)) ?_; clear hHeld HT_ HW_; go_wp2_with fail
          exact ⟨⟨j + 1, by omega, by go_num, HZ.out⟩, by simp [intOf]; omega⟩
         ·have t1 : decide (j < n k) = false := decide_eq_false hj2
          have t2 : decide ((j : Int) < (n k : Int)) = false := decide_eq_false (by omega); go_wp2_with fail; refine start_ (n := 31) (S := fun w' => w'.cell? ⟨w.heap.size, k, none⟩ = some (.slice (some ⟨gg, 0, none⟩) (n k + 70) cp') ∧ w'.cell? ⟨gg, j, none⟩ = some (.string (sg k)) ∧ w'.cell? ⟨L, k, none⟩ = some (.slice A (n k) cp)) (ds := []) (Array.replicate 31 false) (by kernel_rfl) rfl rfl ⟨x1, x3, x2⟩ (fun hHeld => ?_); refine with_tabW tattab24 tatbits24 (fun HT_ HW_ => ?_); have z1 : wr.drew.cell? ⟨w.heap.size, k, none⟩ = some (.slice (some ⟨gg, 0, none⟩) (n k + 70) cp') := x1; have z2 : wr.drew.cell? ⟨L, k, none⟩ = some (.slice A (n k) cp) := x2; have z3 : wr.drew.cell? ⟨gg, j, none⟩ = some (.string (sg k)) := x3; have HZ : Hid (Below wf.heap.size wf wr.drew) := Lib.hid ⟨hbw.out.os, hbw.out.tape, hbw.out.output, hbw.out.size, hbw.out.block⟩; clear x1 x2 x3; generalize wr.drew = w3 at *; refine pX HT_ 0 (some 75) ?_; refine pX HT_ 1 (some 76) ?_; refine pX HT_ 2 (some 77) ?_; refine tX HT_ HW_ hHeld 3 (some 78) ?_; refine pX HT_ 4 (some 79) ?_; refine pX HT_ 5 (some 80) ?_; refine tX HT_ HW_ hHeld 6 (some 81) ?_; refine pX HT_ 7 (some 82) ?_; refine oX HT_ 8 (some 83) (fun K hK => ?_); refine hX Tryd.func48 #[.int .i64 (k : Int)] ?_; refine (SG.out w3).mono ?_; rintro e w4 ⟨rfl, hb4⟩; refine ⟨_, rfl, ?_⟩; replace z1 := bl_cell hb4 z1; replace z2 := bl_cell hb4 z2; replace z3 := bl_cell hb4 z3; replace HZ := Lib.hid (HZ.out.trans (hb4.mono HZ.out.size)); refine hK.out _ _ ⟨z1, z3, z2⟩ (fun hHeld => ?_); clear hK K hb4; refine nX (some 83) ?_; refine pX (v := .bool false) HT_ 9 (some 84) ?_ (hy := Or.inl ⟨by rfl, by intro w'; first | (go_simp; done) | (go_simp; rfl)⟩); refine pX (v := .bool false) HT_ 10 (some 85) ?_ (hy := Or.inl ⟨by rfl, by intro w'; first | (go_simp; done) | (go_simp; rfl)⟩); refine pX HT_ 11 (some 86) ?_; refine pX HT_ 12 (some 87) ?_; refine pX HT_ 13 (some 88) ?_; refine pX HT_ 14 (some 89) ?_; refine tX HT_ HW_ hHeld 15 (some 90) ?_; refine pX HT_ 16 (some 91) ?_; refine pX (v := .bool false) HT_ 17 (some 92) ?_ (hy := Or.inl ⟨by rfl, by intro w'; first | (go_simp; done) | (go_simp; rfl)⟩); refine pX (v := .bool false) HT_ 18 (some 93) ?_ (hy := Or.inl ⟨by rfl, by intro w'; first | (go_simp; done) | (go_simp; rfl)⟩); refine uX HT_ 19 (some 94) ?_; refine uX HT_ 20 (some 95) ?_; refine uX HT_ 21 (some 96) ?_; refine uX HT_ 22 (some 97) ?_; refine uX HT_ 23 (some 98) ?_; refine uX HT_ 24 (some 99) ?_; refine uX HT_ 25 (some 100) ?_; refine uX HT_ 26 (some 101) ?_; refine uX HT_ 27 (some 102) ?_; refine uX HT_ 28 (some 103) ?_; refine pX (v := .bool false) HT_ 29 (some 104) ?_ (hy := Or.inl ⟨by rfl, by intro w'; first | (go_simp; done) | (go_simp; rfl)⟩); refine pX (v := .bool false) HT_ 30 (some 105) ?_ (hy := Or.inl ⟨by rfl, by intro w'; first | (go_simp; done) | (go_simp; rfl)⟩); refine done_ (done_of HT_.out (by kernel_rfl)) ?_; clear hHeld HT_ HW_; go_wp2_with fail
          exact ⟨⟨j + 1, by omega, by go_num, HZ.out⟩, by simp [intOf]; omega⟩
        ·obtain rfl : j = n k + 70 := by omega
         go_wp2_with fail
         exact ⟨⟨k + 1, by omega, by go_num, hbw.out⟩, by simp [intOf]; omega⟩
      ·obtain rfl : K = k := by omega
       go_wp2_with fail; go_ret
       exact ⟨rfl, S.out.spared.below hbw.out⟩
#print axioms textsApart_any
end Go.Proofs.YtajplppeijmfpaaDoor.Ap

namespace Go.Proofs.YtajplppeijmfpaaDoor.Nm
open Go Go.RowKit Go.Proofs.YtajplppeijmfpaaDoor.Ap
set_option linter.unusedVariables false
set_option linter.unusedSimpArgs false
set_option maxHeartbeats 2000000
set_option maxRecDepth 100000
def m71 : ByteArray := ⟨#[35, 55, 49]⟩
def m72 : ByteArray := ⟨#[35, 55, 50]⟩
theorem sameTexts_empty (A1 A2 : Option Addr) (c1 c2 : Nat) (w : World) :
  Calls Tryd.prog 20 #[.slice A1 0 c1, .slice A2 0 c2] w fun e w' => e = .returned (.bool true) ∧ Below w.heap.size w w' := by
 go_enter Tryd.func20, Tryd.ntmps20; go_wp2
 go_loopw [5] (fun i wr => i = .int .i64 0 ∧ wr = w) (fun i _ => 0)
 case atStart => exact ⟨rfl, rfl⟩
 case round =>
  obtain ⟨rfl, rfl⟩ := hrel; go_wp2; go_ret
  exact ⟨rfl, Below.refl _ _⟩
theorem sameTexts_self (l : List ByteArray) (hl : l.length ≤ 4611686018427387904) (b c1 : Nat) (A : Option Addr) (c : Nat) (w : World) (r1 : RdS w b 0 l) (h : StrArg w A l.length c l) :
  Calls Tryd.prog 20 #[.slice (some ⟨b, 0, none⟩) l.length c1, .slice A l.length c] w fun e w' => e = .returned (.bool true) ∧ Below w.heap.size w w' := by
 obtain ⟨_, h2⟩ := h
 by_cases h0 : l = []
 ·subst h0; exact sameTexts_empty _ _ _ _ _
 ·rcases h2 with ⟨_, _, h2⟩ | ⟨ad, rfl, h3, h5⟩
  ·exact absurd h2 h0
  ·obtain ⟨b2, o2, rfl, h4, h6⟩ := h5.spot h0
   have := sameTexts_any l l hl b 0 c1 b2 o2 c w r1 h6; rw [decide_eq_true rfl] at this
   exact this
theorem two_new (w : World) {b : Nat} (hb : b = w.heap.size) : RdA (w.alloc (.cells #[.string ⟨#[35, 55, 49]⟩, .string ⟨#[35, 55, 50]⟩] 9)) ⟨b, 0, none⟩ [m71, m72] := by
 subst hb; intro j x hx; rw [add_at, Nat.zero_add, cell_new]
 match j, hx with
 | 0, h => simp at h; subst h; rfl
 | 1, h => simp at h; subst h; rfl
 | (j + 2), h => simp at h
theorem keeps_end {w1 W w9 : World} {v1 v2 : Value} {l : List ByteArray} (hown : w9.ownsRow w1.heap.size 9 1 v2 (l ++ [m71, m72]).length (strL (l ++ [m71, m72]))) (hb : Below w1.heap.size w1 W) (hg : W.grownBy w9 v1.ownBlock) (hz : w1.heap.size ≤ W.heap.size) (hv : ∀ k, v1.ownBlock = some k → w1.heap.size ≤ k) :
  ∃ g cap, v2 = .slice (some ⟨g, 0, none⟩) (l.length + 2) cap ∧ Hid (w9.ownsRow w1.heap.size 9 1 (.slice (some ⟨g, 0, none⟩) (l.length + 2) cap) (l.length + 2) (strL (l ++ [m71, m72]))) ∧ Hid (Below w1.heap.size w1 w9) := by
 have hl : (l ++ [m71, m72]).length = l.length + 2 := by simp
 rw [hl] at hown
 rcases own_form hown with ⟨_, h0⟩ | ⟨g, c, rfl, _⟩
 ·omega
 ·exact ⟨g, c, rfl, hown, hb.grown hg hz hv⟩
theorem apart_two (w : World) (P : List ByteArray) (hP : P.length ≤ 2000000) :
  Calls Tryd.prog 21 #[.slice (some ⟨w.heap.size + 1 + 1, 0, none⟩) 2 2]
   (((w.alloc (.cells (strC P) 9)).alloc (.cells (strC P) 9)).alloc (.cells #[.slice (some ⟨w.heap.size, 0, none⟩) P.length P.length, .slice (some ⟨w.heap.size + 1, 0, none⟩) P.length P.length] 32))
   fun e w' => e = .returned (.bool true) ∧ Below w.heap.size w w' := by
 have hc : (strC P).toList = strL P := by simp [strC, strL]
 have hs : (strC P).size = P.length * 1 := by simp [strC]
 have r0 := World.ownsRow_lit (e := 9) (base := w.heap.size) (size := 1) w (strC P) P.length (Nat.le_refl _) (by simp only [maxLen]; omega) hs; have r1 := World.ownsRow_lit (e := 9) (base := w.heap.size) (size := 1) (w.alloc (.cells (strC P) 9)) (strC P) P.length (by simp) (by simp only [maxLen]; omega) hs; rw [hc] at r0 r1; rw [World.size_alloc] at r1
 have hz : (((w.alloc (.cells (strC P) 9)).alloc (.cells (strC P) 9)).alloc (.cells #[.slice (some ⟨w.heap.size, 0, none⟩) P.length P.length, .slice (some ⟨w.heap.size + 1, 0, none⟩) P.length P.length] 32)).heap.size = w.heap.size + 3 := by simp
 have hb : Below w.heap.size w (((w.alloc (.cells (strC P) 9)).alloc (.cells (strC P) 9)).alloc (.cells #[.slice (some ⟨w.heap.size, 0, none⟩) P.length P.length, .slice (some ⟨w.heap.size + 1, 0, none⟩) P.length P.length] 32)) :=
  (((Below.refl _ w).alloc (Nat.le_refl _) _).alloc (by simp) _).alloc (by simp; omega) _
 refine (textsApart_any _ w.heap.size 2 (w.heap.size + 1 + 1) 2 (fun i => .slice (some ⟨w.heap.size + i, 0, none⟩) P.length P.length) (fun _ => P.length) (fun _ => strL P)
  ⟨fun i hi => ?_, fun i j k _ _ h1 h2 => ?_⟩ (fun i hi => ?_) (fun i hi => ?_) (by rw [hz]; omega) (by decide) (fun _ _ => hP) (by rw [hz]; omega)).mono ?_
 ·match i, hi with
  | 0, _ => exact (r0.alloc _).alloc _
  | 1, _ => exact r1.alloc _
 ·simp only [Value.ownBlock, Option.some.injEq] at h1 h2
  omega
 ·have : (((w.alloc (.cells (strC P) 9)).alloc (.cells (strC P) 9)).heap.size) = w.heap.size + 1 + 1 := by simp
  rw [← this, cell_new]
  match i, hi with
  | 0, _ => rfl
  | 1, _ => rfl
 ·simp only [Value.ownBlock, ne_eq, Option.some.injEq]
  omega
 ·rintro e w' ⟨rfl, hsp⟩
  exact ⟨rfl, hb.trans (hsp.toBelow (by rw [hz]; omega) (fun i k hi hk => by simp only [Value.ownBlock, Option.some.injEq] at hk; omega))⟩
theorem namesKeeps_any (a : ByteArray) (A : Option Addr) (n c : Nat) (l : List ByteArray) (ha : a.size ≤ 1048576) (hl : sumL l ≤ 4194304) (w : World) (hp : StrArg w A n c l) (hm : ML w) :
  Calls Tryd.prog 5 #[.string a, .slice A n c] w fun e w' => e = .returned (.bool true) ∧ Below w.heap.size w w' := by
 have AW := Lib.hid (awake_any w hm)
 have hlen : l.length ≤ sumL l := by
  clear hp
  induction l with
  | nil => simp [sumL]
  | cons a l ih => simp only [sumL, List.map_cons, List.sum_cons, List.length_cons] at ih hl ⊢; omega
 have PA : Hid (∀ W, _) := Lib.hid (fun W => parts_any a (by omega) W trivial); have RP : Hid (∀ W, _) := Lib.hid (fun W => rparts_any a (by omega) W); have hle := partsB_le a; have hp0 : Hid (StrArg w A n c l) := hp; obtain ⟨rfl, _⟩ := hp; have J : Hid (∀ A c W, StrArg W A l.length c l → _) := Lib.hid (fun A c W h => joinAny A l.length c l (by omega) W h); have RJ : Hid (∀ A c W, StrArg W A l.length c l → _) := Lib.hid (fun A c W h => rjoinAny A l.length c l (by omega) W h); generalize hjp : joinP l = jp at *; obtain ⟨j1, j2⟩ := jp; clear hjp hm; go_enter Tryd.func5, Tryd.ntmps5
 go_upto_region 3 with (go_at_call 17; refine AW.out.mono ?_; rintro e w1 ⟨rfl, hb1⟩)
 replace hp0 := Lib.hid (hp0.out.below hb1); replace hb1 := Lib.hid hb1
 go_cut [5] (fun v5 wc => ∃ g cap, v5 = .slice (some ⟨g, 0, none⟩) (l.length + 2) cap ∧ Hid (wc.ownsRow w1.heap.size 9 1 (.slice (some ⟨g, 0, none⟩) (l.length + 2) cap) (l.length + 2) (strL (l ++ [m71, m72]))) ∧ Hid (Below w1.heap.size w1 wc))
 case first =>
  have hmade : (w1.alloc (.cells #[] 9)).ownsRow w1.heap.size 9 1 (.slice (some ⟨w1.heap.size, 0, none⟩) 0 0) 0 (strL []) := World.ownsRow_made w1 #[] 0 (Nat.le_refl _) (by decide) (by simp); replace hmade := Lib.hid hmade; obtain ⟨_, hp'⟩ := hp0.out
  rcases hp' with ⟨rfl, rfl, rfl⟩ | ⟨ad, rfl, hc3, hrd⟩
  ·obtain ⟨i0, hi, hzz⟩ := Option.map_eq_some_iff.1 strsT
   go_wp2_with (first
    | (at_builtin; go_loud (refine wpList_append_own_none rfl _ _ _ rfl w1.heap.size 9 i0 1 Tryd.underlying32 hi _ 0 (strL []) rfl (by exact hmade.out) rfl ?_))
    | (at_builtin; go_loud (refine append_strs w1.heap.size rfl _ _ _ 9 rfl Tryd.underlying32 strsT _ [] [m71, m72] rfl ⟨w1.heap.size + 1, 0, none⟩ 2 2 (by simp [Act.eval]) rfl (by exact two_new _ (by simp)) (by exact hmade.out.alloc _) (by simp; omega) (by simp) ?_); intro v2 w9 hown9 hg9))
   go_meet
   case rel => exact keeps_end (l := []) hown9 (((Below.refl _ w1).alloc (Nat.le_refl _) _).alloc (by simp) _) hg9 (by simp only [World.size_alloc]; omega) (own_base hmade.out)
  ·replace hrd := Lib.hid hrd
   have hob := Lib.hid (own_base hmade.out)
   go_wp2_with (first
    | (at_builtin; go_loud (refine append_strs w1.heap.size rfl _ _ _ 9 rfl Tryd.underlying32 strsT _ [] l rfl ad c l.length rfl rfl (by exact (hrd.out.below ((Below.refl _ _).alloc (Nat.le_refl _) _))) (by exact hmade.out) (by simp) (by simp; omega) ?_); intro v1 w8 hown8 hg8; clear hmade; rw [List.nil_append] at hown8; replace hown8 := Lib.hid hown8; replace hg8 := Lib.hid hg8; have hz8 := hg8.out.size)
    | (at_builtin; go_loud (refine append_strs w1.heap.size rfl _ _ _ 9 rfl Tryd.underlying32 strsT _ l [m71, m72] rfl ⟨w8.heap.size, 0, none⟩ 2 2 rfl rfl (by exact two_new _ rfl) (by exact hown8.out.alloc _) (by simp only [World.size_alloc] at hz8 ⊢; omega) (by omega) ?_); intro v2 w9 hown9 hg9))
   go_meet
   case rel =>
    refine keeps_end hown9 ((((Below.refl _ w1).alloc (Nat.le_refl _) _).grown hg8.out (by simp) hob.out).alloc (by simp only [World.size_alloc] at hz8 ⊢; omega) _) hg9 (by simp only [World.size_alloc] at hz8 ⊢; omega) (own_base hown8.out)
 case rest =>
  obtain ⟨g, cap, rfl, HO, HB⟩ := hcut; clear AW; have hp1 := Lib.hid (hp0.out.below HB.out); have hcap : l.length + 2 ≤ cap := own_cap HO.out
  have hS : Hid (StrArg wc (some ⟨g, 0, none⟩) l.length cap l) := ⟨rfl, .inr ⟨_, rfl, by omega, fun j x hx => by
   rw [add_at, Nat.zero_add]; refine own_cell HO.out j _ ?_; have hj := (List.getElem?_eq_some_iff.1 hx).1
   simp only [strL, List.map_append, List.getElem?_append_left (show j < (l.map Value.string).length by simpa using hj), List.getElem?_map, hx, Option.map_some]⟩⟩
  go_wp2_with (first
   | (go_at_call 18; refine (J.out _ _ _ hS.out).mono ?_; rintro e w2 ⟨rfl, hb2⟩; have hp2 := Lib.hid (hp1.out.below hb2); replace hb2 := Lib.hid hb2)
   | (go_at_call 19; refine (RJ.out _ _ _ hp2.out).mono ?_; rintro e w3 ⟨rfl, rfl⟩))
  have hR : Hid (RdS wc g 0 l) := fun j x hx => by
   rw [Nat.zero_add]; refine own_cell HO.out j _ ?_; have hj := (List.getElem?_eq_some_iff.1 hx).1; simp only [strL, List.map_append, List.getElem?_append_left (show j < (l.map Value.string).length by simpa using hj), List.getElem?_map, hx, Option.map_some]
  have c71 : wc.cell? ⟨g, l.length, none⟩ = some (.string ⟨#[35, 55, 49]⟩) := own_cell HO.out l.length _ (by simp [strL, m71]); have c72 : wc.cell? ⟨g, l.length + 1, none⟩ = some (.string ⟨#[35, 55, 50]⟩) := own_cell HO.out (l.length + 1) _ (by simp [strL, m72]); refine (sameTexts_self l (by omega) g cap A c _ (hR.out.below hb2.out) hp2.out).mono ?_; rintro e w4 ⟨rfl, hb4⟩; replace c71 := bl_cell hb4 (bl_cell hb2.out c71); replace c72 := bl_cell hb4 (bl_cell hb2.out c72); have HB4 := Lib.hid (((HB.out.trans (hb2.out.mono HB.out.size)).trans (hb4.mono (Nat.le_trans HB.out.size hb2.out.size)))); clear hb4 hR hp2 hS J RJ HO hp1
  go_wp2_with (first
   | (go_at_call 22; refine (PA.out _).mono ?_; rintro e w5 ⟨rfl, rfl⟩))
  refine (apart_two w4 (partsB a) (by omega)).mono ?_; rintro e w6 ⟨rfl, hb6⟩; replace HB4 := Lib.hid (HB4.out.trans (hb6.mono HB4.out.size)); clear hb6 c71 c72; go_wp2_with fail; refine (PA.out _).mono ?_; rintro e w7 ⟨rfl, hw7⟩
  have hr7 : Hid (RdS w7 w6.heap.size 0 (partsB a)) := by show RdS _ _ _ _; rw [hw7]; exact RdS.new _ _ _
  replace HB4 : Hid (Below w1.heap.size w1 w7) := Lib.hid (HB4.out.trans (by rw [hw7]; exact (Below.refl _ _).alloc HB4.out.size _)); clear hw7; generalize w6.heap.size = g7 at *; go_wp2_with fail; refine (RP.out _).mono ?_; rintro e w8 ⟨⟨g8, cap8, rfl, hown⟩, hb8⟩; have hr8 := Lib.hid (RdS_own hown); replace hr7 := Lib.hid (hr7.out.below hb8); replace HB4 := Lib.hid (HB4.out.trans (hb8.mono HB4.out.size)); clear hb8 hown; have ST := sameTexts_any (partsB a) (partsB a) (by omega) g7 0 (partsB a).length g8 0 cap8 w8 hr7.out hr8.out; rw [decide_eq_true rfl] at ST; replace ST := Lib.hid ST; clear hr7 hr8; go_wp2_with fail; refine ST.out.mono ?_; clear ST; rintro e w9 ⟨rfl, hb9⟩; replace HB4 := Lib.hid (HB4.out.trans (hb9.mono HB4.out.size)); clear hb9; go_wp2_with fail; go_ret
  exact ⟨rfl, (hb1.out).trans (HB4.out.mono hb1.out.size)⟩
#print axioms namesKeeps_any
end Go.Proofs.YtajplppeijmfpaaDoor.Nm
