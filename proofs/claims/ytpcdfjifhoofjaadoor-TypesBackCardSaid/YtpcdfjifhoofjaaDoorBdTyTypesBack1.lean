/- Lemmas and contracts for the statement of TyTypesBack: joined by program out of this session's texts. -/
import Derived.Test.YtpcdfjifhoofjaaDoorProg
import Derived.Below
import Derived.Deep.Draws
import Derived.Deep.AppendLies
import Derived.Maps.AppendAt
import Derived.OwnWalk
import Derived.Laws.BytesArg
import Derived.Laws.MakeOwn
import Derived.Laws.OwnMore
import Derived.Deep.OwnRows
import Derived.Tactics
import Derived.Lib.ConvBytes
import Derived.Laws.Slices
import Derived.WalkKit
import Derived.KernelRfl
import Derived.RowKit3
import Derived.Deep.LoopGhost
import Derived.Deep.QuietTactic
import Derived.BigQuiet
import Derived.WideLaws
import Derived.Deep.DeepCutAuto
import Derived.Deep.CutBlock
import Derived.Deep.RegionHeld3
import Derived.Laws.Rows
import Derived.Lib.AppendStr
import Derived.ArgAppend
import Derived.Laws.IdiomCopy
import Derived.OrdersHeld
import Derived.Laws.BitsLemmas
import Derived.RowKit
import Derived.Test.YtpcdfjifhoofjaaDoorWWords
import Derived.Test.YtpcdfjifhoofjaaDoorWLast
import Derived.Test.YtpcdfjifhoofjaaDoorWTab
import Derived.Test.YtpcdfjifhoofjaaDoorWFour
import Derived.Test.YtpcdfjifhoofjaaDoorWQPut
import Derived.Test.YtpcdfjifhoofjaaDoorWApart
import Derived.Test.YtpcdfjifhoofjaaDoorWArr
import Derived.Test.YtpcdfjifhoofjaaDoorWZeros
import Derived.Test.YtpcdfjifhoofjaaDoorWFoot
import Derived.Test.YtpcdfjifhoofjaaDoorWKept
import Derived.Test.YtpcdfjifhoofjaaDoorWShare
import Derived.Test.YtpcdfjifhoofjaaDoorWN
import Derived.Test.YtpcdfjifhoofjaaDoorWFootNe
import Derived.Test.YtpcdfjifhoofjaaDoorWAt
import Derived.Test.YtpcdfjifhoofjaaDoorWEqStruct
import Derived.Test.YtpcdfjifhoofjaaDoorWRepsOne
import Derived.Test.YtpcdfjifhoofjaaDoorWInv
import Derived.Test.YtpcdfjifhoofjaaDoorWInvWords
import Derived.Test.YtpcdfjifhoofjaaDoorWGuard
import Derived.Test.YtpcdfjifhoofjaaDoorWNEv
import Derived.Test.YtpcdfjifhoofjaaDoorWMore
import Derived.Handy
import Derived.Lib.Hide
import Derived.Lib.Split
import Derived.Lib.SplitLaws
import Derived.Lib.Join
import Derived.Lib.IndexLaws
import Derived.Lib.IndexBytes
import Derived.Shelf.Strings.Builder1
import Derived.Shelf.Strings.Builder2
import Derived.Shelf.Strings.OnBuilder
import Derived.Shelf.Strings.BuilderF
import Derived.Shelf.Strings.BuilderK
import Derived.Shelf.Utf8.RuneCount
import Derived.Shelf.Strings.Builder2Cap
import Derived.Shelf.Strings.Search1
import Derived.Shelf.Strings.Search2
import Derived.Shelf.Strings.Search3
import Derived.Shelf.Strings.Cut
import Derived.Shelf.Strings.Count
import Derived.Shelf.LaysM
import Derived.Shelf.Strings.Shaped
import Derived.Shelf.Strings.LastIndex
import Derived.Shelf.Strings.Prefix
import Derived.Shelf.Strings.Split
import Derived.Shelf.Strings.SplitShaped
import Derived.Shelf.Unicode.Decode
import Derived.Shelf.Strings.RuneCount
import Derived.Shelf.Strings.Explode
import Derived.Shelf.Bits.Mul64
import Derived.Shelf.Strings.Repeat
import Derived.Shelf.Unicode.DecodeSlow
import Derived.Shelf.Unicode.DecodeAny
import Derived.Shelf.Strings.BuilderCap
import Derived.Ground.PaProg
import Derived.Shelf.Path.Small
import Derived.WalkLawsBesides
import Derived.RangeFuncBox
-- laid by a program of this session's own (a variant of the kit's print)
namespace Go.Proofs.YtpcdfjifhoofjaaDoor.Pt
open Go.RowKit Go.Proofs.YtpcdfjifhoofjaaDoorW.PrintWords Go.Proofs.YtpcdfjifhoofjaaDoorW.PrintLast Go.Proofs.YtpcdfjifhoofjaaDoorW.PrintMore
attribute [local go_sem] max2_int min2_int max_two min_two max_three min_three max_four min_four   -- for this text's walks alone
set_option linter.unusedVariables false
set_option linter.unusedSimpArgs false



def errW : Option Int → Value
 | none => .nilIface
 | some c => .iface 0 (.int .i64 c)
theorem errW_none : errW none = .nilIface := rfl
theorem errW_some (c : Int) : errW (some c) = .iface 0 (.int .i64 c) := rfl

theorem info5 : (Tryd.prog.info? 5).map (fun i => (i.zero, i.size, i.bytes)) = some (some (.int .u8 0), 1, 1) := by kernel_rfl
theorem info37 : (Tryd.prog.info? 37).map (fun i => (i.zero, i.size, i.bytes)) = some (some (.agg #[(.int .i64 0), (.string ⟨#[]⟩)]), 2, 24) := by kernel_rfl
-- the values' own types
/-! #### struct type 37 -/
structure S37 where
 f0 : Int
 f1 : ByteArray
def z37 : S37 := ⟨(0 : Int), (⟨#[]⟩ : ByteArray)⟩
def k37 : Kd S37 := Kd.iso (Kd.pair (Kd.int .i64) Kd.string) (fun x : S37 => (x.f0, x.f1))
theorem k37_open {w : World} {x : S37} {cs : List Value} (h : k37.K w x cs) : cs = [.int .i64 x.f0, .string x.f1] := by
 obtain ⟨_, _, rfl, rfl, rfl⟩ := h
 exact rfl
theorem k37_openM {w : World} {base : Nat} {ok : Nat → Prop} {x : S37} {cs : List Value} (h : k37.M w base ok x cs) : cs = [.int .i64 x.f0, .string x.f1] := by
 obtain ⟨_, _, rfl, rfl, rfl⟩ := h
 exact rfl
theorem k37_mk (w : World) (x : S37)  : k37.K w x [.int .i64 x.f0, .string x.f1] := ⟨[.int .i64 x.f0], [.string x.f1], rfl, rfl, rfl⟩
theorem k37_mkM (w : World) (base : Nat) (ok : Nat → Prop) (x : S37)  : k37.M w base ok x [.int .i64 x.f0, .string x.f1] := ⟨[.int .i64 x.f0], [.string x.f1], rfl, rfl, rfl⟩
def rd_T37 (xs : List S37) (i : Int) : S37 := xs.getD i.toNat z37
theorem at_T37 {w : World} {A : Option Addr} {n : Nat} {xs : List S37} (h : Kd.C k37 w A n xs) (i : Int) (h0 : 0 ≤ i) (h1 : i < n) : ∃ ad , A = some ad ∧ w.cell? (ad.add (i.toNat * 2)) = some (.int .i64 (rd_T37 xs i).f0) ∧ w.cell? ⟨(ad.add (i.toNat * 2)).block, (ad.add (i.toNat * 2)).off + 1, none⟩ = some (.string (rd_T37 xs i).f1) := by
 obtain ⟨ad, c, e, _, hK, hc0⟩ := Kd.C_get h z37 i h0 h1
 have hc : ∀ j u, c[j]? = some u → w.cell? (ad.add (i.toNat * 2 + j)) = some u := hc0
 obtain rfl := k37_open hK
 exact ⟨ad, e, hc 0 _ rfl, by rw [← add_field _ _ 1 (by omega)]; exact hc 1 _ rfl⟩

def rd_L3 (xs : List (List S37)) (i : Int) : (List S37) := xs.getD i.toNat ([] : List S37)
theorem at_L3 {w : World} {A : Option Addr} {n : Nat} {xs : List (List S37)} (h : Kd.C (Kd.slice 37 k37) w A n xs) (i : Int) (h0 : 0 ≤ i) (h1 : i < n) : ∃ ad A0 c0, A = some ad ∧ w.cell? (ad.add i.toNat) = some (.slice A0 (rd_L3 xs i).length c0) ∧ (rd_L3 xs i).length ≤ c0 ∧ k37.C w A0 (rd_L3 xs i).length (rd_L3 xs i) := by
 obtain ⟨ad, c, e, _, hK, hc0⟩ := Kd.C_get h ([] : List S37) i h0 h1
 have hc : ∀ j u, c[j]? = some u → w.cell? (ad.add (i.toNat * 1 + j)) = some u := hc0
 obtain ⟨A0, c0, rfl, l0, g0⟩ := hK
 exact ⟨ad, A0, c0, e, by have hq := hc 0 _ rfl; rwa [Nat.mul_one, Nat.add_zero] at hq, l0, g0⟩

/-! #### struct type 43 -/
structure S43 where
 f0 : (List S37)
 f1 : Bool
 f2 : S37
def z43 : S43 := ⟨([] : List S37), false, z37⟩
def k43 : Kd S43 := Kd.iso (Kd.pair (Kd.slice 37 k37) (Kd.pair Kd.bool k37)) (fun x : S43 => (x.f0, x.f1, x.f2))
theorem k43_open {w : World} {x : S43} {cs : List Value} (h : k43.K w x cs) : ∃ A0 c0, cs = [.slice A0 x.f0.length c0, .bool x.f1, .int .i64 x.f2.f0, .string x.f2.f1] ∧ x.f0.length ≤ c0 ∧ k37.C w A0 x.f0.length x.f0 := by
 obtain ⟨_, _, rfl, ⟨A0, c0, rfl, l0, g0⟩, ⟨_, _, rfl, rfl, s2⟩⟩ := h
 obtain rfl := k37_open s2
 exact ⟨A0, c0, rfl, l0, g0⟩
theorem k43_openM {w : World} {base : Nat} {ok : Nat → Prop} {x : S43} {cs : List Value} (h : k43.M w base ok x cs) : ∃ v0, cs = [v0, .bool x.f1, .int .i64 x.f2.f0, .string x.f2.f1] ∧ k37.R 37 w base ok v0 x.f0 := by
 obtain ⟨_, _, rfl, ⟨v0, rfl, g0⟩, ⟨_, _, rfl, rfl, s2⟩⟩ := h
 obtain rfl := k37_openM s2
 exact ⟨v0, rfl, g0⟩
theorem k43_mk (w : World) (x : S43) {A0 : Option Addr} {c0 : Nat} (l0 : x.f0.length ≤ c0) (g0 : k37.C w A0 x.f0.length x.f0) : k43.K w x [.slice A0 x.f0.length c0, .bool x.f1, .int .i64 x.f2.f0, .string x.f2.f1] := ⟨[.slice A0 x.f0.length c0], [.bool x.f1, .int .i64 x.f2.f0, .string x.f2.f1], rfl, ⟨A0, c0, rfl, l0, g0⟩, ⟨[.bool x.f1], [.int .i64 x.f2.f0, .string x.f2.f1], rfl, rfl, (k37_mk w x.f2 )⟩⟩
theorem k43_mkM (w : World) (base : Nat) (ok : Nat → Prop) (x : S43) {v0 : Value} (g0 : k37.R 37 w base ok v0 x.f0) : k43.M w base ok x [v0, .bool x.f1, .int .i64 x.f2.f0, .string x.f2.f1] := ⟨[v0], [.bool x.f1, .int .i64 x.f2.f0, .string x.f2.f1], rfl, ⟨v0, rfl, g0⟩, ⟨[.bool x.f1], [.int .i64 x.f2.f0, .string x.f2.f1], rfl, rfl, (k37_mkM w base ok x.f2 )⟩⟩
def rd_T43 (xs : List S43) (i : Int) : S43 := xs.getD i.toNat z43
theorem at_T43 {w : World} {A : Option Addr} {n : Nat} {xs : List S43} (h : Kd.C k43 w A n xs) (i : Int) (h0 : 0 ≤ i) (h1 : i < n) : ∃ ad A0 c0, A = some ad ∧ w.cell? (ad.add (i.toNat * 4)) = some (.slice A0 (rd_T43 xs i).f0.length c0) ∧ w.cell? ⟨(ad.add (i.toNat * 4)).block, (ad.add (i.toNat * 4)).off + 1, none⟩ = some (.bool (rd_T43 xs i).f1) ∧ w.cell? ⟨(ad.add (i.toNat * 4)).block, (ad.add (i.toNat * 4)).off + 2, none⟩ = some (.int .i64 (rd_T43 xs i).f2.f0) ∧ w.cell? ⟨(ad.add (i.toNat * 4)).block, (ad.add (i.toNat * 4)).off + 3, none⟩ = some (.string (rd_T43 xs i).f2.f1) ∧ (rd_T43 xs i).f0.length ≤ c0 ∧ k37.C w A0 (rd_T43 xs i).f0.length (rd_T43 xs i).f0 := by
 obtain ⟨ad, c, e, _, hK, hc0⟩ := Kd.C_get h z43 i h0 h1
 have hc : ∀ j u, c[j]? = some u → w.cell? (ad.add (i.toNat * 4 + j)) = some u := hc0
 obtain ⟨A0, c0, rfl, l0, g0⟩ := k43_open hK
 exact ⟨ad, A0, c0, e, hc 0 _ rfl, by rw [← add_field _ _ 1 (by omega)]; exact hc 1 _ rfl, by rw [← add_field _ _ 2 (by omega)]; exact hc 2 _ rfl, by rw [← add_field _ _ 3 (by omega)]; exact hc 3 _ rfl, l0, g0⟩

end Go.Proofs.YtpcdfjifhoofjaaDoor.Pt

/- Small laws for walks: append of one element, blocks that are new, what is read below a block. No program in sight. -/
namespace Go.Proofs.YtpcdfjifhoofjaaDoor
open Go Go.RowKit
set_option linter.unusedVariables false
set_option linter.unusedSimpArgs false

theorem ret_int {k : IntKind} {a b : Int} (h : a = b) : Ending.returned (.int k a) = .returned (.int k b) := by rw [h]
theorem ret_bool {a b : Bool} (h : a = b) : Ending.returned (.bool a) = .returned (.bool b) := by rw [h]
theorem ret_str {a b : List UInt8} (h : a = b) : Ending.returned (.string ⟨a.toArray⟩) = .returned (.string ⟨b.toArray⟩) := by rw [h]

/-- append(s, x), one element of 'size' cells, to a row of the call's own. -/
theorem append1 {P : Program} {ops : Array Oper} {rest : List Oper} {o : Oper} {a : Act} {Q : Exit → Act → World → Prop} {W : World} (base : Nat) (hgd : o.guard = none) (s x : Operand) (t e : TypeId) (z : Value) (size bytes : Nat)
    (ho : o.op = .call { callee := .builtin .append, args := #[s, x], argTypes := #[t, t] })
    (ht : P.underlying t = some (.slice e)) (hinfo : (P.info? e).map (fun i => (i.zero, i.size, i.bytes)) = some (some z, size, bytes)) (hz : z.cells.size = size) (hsz : 0 < size)
    (v : Value) (n : Nat) (xs news : List Value) (hs : a.eval s = v) (b : Nat) (hb : b = W.heap.size) (hx : a.eval x = .slice (some ⟨b, 0, none⟩) 1 1) (hnl : news.length = size) (h1 : ∀ u ∈ news, u.oneCell' = true)
    (HO : W.ownsRow base e size v n xs) (hbase : base ≤ W.heap.size) (hl : (n + 1) * bytes ≤ 140737488355328) (hm : n + 1 ≤ 9223372036854775807)
    (h : ∀ v1 w1, w1.ownsRow base e size v1 (n + 1) (xs ++ news) → W.grownBy w1 v.ownBlock → wpList P ops Q rest (a.put o.dst v1) w1) :
    wpList P ops Q (o :: rest) a (W.alloc (.cells news.toArray e)) := by
  subst hb
  obtain ⟨i0, hi, hzz⟩ := Option.map_eq_some_iff.1 hinfo
  simp only [Prod.mk.injEq] at hzz
  obtain ⟨hz0, hz1, hz2⟩ := hzz
  refine wpList_append_own (W.alloc (.cells news.toArray e)) hgd s x t ho base e i0 z size bytes ht hi hz0 hz1 hz2 hz hsz v n xs hs (HO.alloc _) ⟨W.heap.size, 0, none⟩ 1 1 news hx (by omega) ?_ h1 (by simpa only [maxLen] using hm) hl (by simp; omega) ?_
  · intro j u hu
    exact World.news_of_block (cs := news.toArray) (t := e) (fr := (0, 0)) (heap_alloc_new W _) j u (by simpa using hu)
  · intro v1 w1 hown hg _
    exact h v1 w1 hown (World.grownBy.trans (World.grownBy_alloc W _ _) hg)
theorem own_base {w : World} {base : Nat} {e : TypeId} {size n : Nat} {v : Value} {xs : List Value} (h : w.ownsRow base e size v n xs) (k : Nat) (hk : v.ownBlock = some k) : base ≤ k := (h.lt k hk).1

theorem own_cell {w : World} {base g cap : Nat} {e : TypeId} {size n : Nat} {xs : List Value} (h : w.ownsRow base e size (.slice (some ⟨g, 0, none⟩) n cap) n xs) (j : Nat) (u : Value) (hu : xs[j]? = some u) : w.cell? ⟨g, j, none⟩ = some u := by
  have := h.cells (g := g) rfl j u hu
  unfold Addr.add at this
  split at this <;> simp_all
theorem own_cap {w : World} {base g cap : Nat} {e : TypeId} {size n : Nat} {xs : List Value} (h : w.ownsRow base e size (.slice (some ⟨g, 0, none⟩) n cap) n xs) : n ≤ cap := by
  rcases h.2 with ⟨h', _⟩ | ⟨g', cap', cur, h', _, _, hn, _⟩
  · cases h'
  · injection h' with _ _ hc; omega
theorem own_shape {w : World} {base : Nat} {e : TypeId} {size n : Nat} {v : Value} {xs : List Value} (h : w.ownsRow base e size v n xs) : ∃ A c, v = .slice A n c := by
  rcases h.2 with ⟨rfl, rfl⟩ | ⟨g, cap, cur, rfl, _⟩
  · exact ⟨none, 0, rfl⟩
  · exact ⟨_, cap, rfl⟩

theorem bl_trans {w w1 w2 : World} (h : Below w.heap.size w w1) (k : Below w1.heap.size w1 w2) : Below w.heap.size w w2 := h.trans (k.mono h.size)
theorem bl_cell {w w1 : World} (h : Below w.heap.size w w1) {a : Addr} {v : Value} (hc : w.cell? a = some v) : w1.cell? a = some v := (h.cell (World.block_lt_of_cell? w a hc)).trans hc

theorem cell_new (w : World) (cs : Array Value) (t : TypeId) (j : Nat) : (w.alloc (.cells cs t)).cell? ⟨w.heap.size, j, none⟩ = cs[j]? := by
  simp only [World.cell?, heap_alloc_new]
  rfl
end Go.Proofs.YtpcdfjifhoofjaaDoor

/- Plain facts on names: letters, parts, cutting at a slash. No program in sight. -/
namespace Go.Proofs.YtpcdfjifhoofjaaDoor.Nm
open Go Go.RowKit
set_option linter.unusedVariables false
set_option linter.unusedSimpArgs false

/-- Byte k of a string, as a number. -/
def bt (s : ByteArray) (k : Nat) : Int := ((s.data.toList.getD k 0).toNat : Int)
theorem bt_at (s : ByteArray) (k : Nat) (h : k < s.size) : ((s[k]'h).toNat : Int) = bt s k := by
  have h' : k < s.data.toList.length := by rw [Array.length_toList]; exact h
  simp only [bt, List.getD_eq_getElem?_getD, List.getElem?_eq_getElem h', Option.getD_some]
  rfl
theorem bt_range (s : ByteArray) (k : Nat) : 0 ≤ bt s k ∧ bt s k ≤ 255 := by
  unfold bt
  have := (s.data.toList.getD k 0).toNat_lt
  omega

/-- names.letter -/
def letB (n : Int) (first : Bool) : Bool :=
  decide (97 ≤ n ∧ n ≤ 122) || decide (65 ≤ n ∧ n ≤ 90) || n == 95 || n == 36 || (!first && decide (48 ≤ n ∧ n ≤ 57))
/-- Are the first k bytes letters? -/
def lets (s : ByteArray) (k : Nat) : Bool := (List.range k).all fun j => letB (bt s j) ((j : Int) == 0)
theorem lets_succ (s : ByteArray) (k : Nat) : lets s (k + 1) = (lets s k && letB (bt s k) ((k : Int) == 0)) := by simp [lets, List.range_succ]
theorem lets_false (s : ByteArray) (k m : Nat) (hk : k < m) (h : letB (bt s k) ((k : Int) == 0) = false) : lets s m = false := by
  unfold lets
  rw [List.all_eq_false]
  exact ⟨k, by simp [hk], by simp [h]⟩
/-- names.part -/
def partB (s : ByteArray) : Bool := lets s s.size && !s.toList.isEmpty
/-- names.Parts -/
def partsB (s : ByteArray) : List ByteArray := Lib.splitB ⟨#[47]⟩ 0 (Lib.countB s ⟨#[47]⟩) s
theorem partsB_len (s : ByteArray) : (partsB s).length = Lib.countB s ⟨#[47]⟩ + 1 := Lib.splitB_all ⟨#[47]⟩ (by decide) 0 _ s rfl
theorem partsB_le (s : ByteArray) : (partsB s).length ≤ s.size + 1 := by
  rw [partsB_len]
  have := Lib.countB_le ⟨#[47]⟩ (by decide) s.size s (Nat.le_refl _)
  omega
/-- The first text of a list that is no part, as slices.IndexFunc finds it. -/
def badFrom : Nat → List ByteArray → Int
  | _, [] => -1
  | i, s :: r => if partB s then badFrom (i + 1) r else i
/-- names.Valid -/
def validB (s : ByteArray) : Bool := decide (s.size ≤ 60) && (partsB s).all partB
/-- names.Member -/
def memberB (s : ByteArray) : Bool := (s.toList == [60, 105, 110, 105, 116, 62]) || (decide (s.size ≤ 60) && partB s)
theorem badFrom_all (l : List ByteArray) (k : Nat) (h : ∀ j, j < k → ∀ x, l[j]? = some x → partB x = true) (hk : l.length ≤ k) : l.all partB = true := by
  rw [List.all_eq_true]
  intro x hx
  obtain ⟨j, hj, e⟩ := List.mem_iff_getElem.1 hx
  exact h j (by omega) x (by rw [List.getElem?_eq_getElem hj, e])
theorem bad_at (l : List ByteArray) (k : Nat) (x : ByteArray) (hx : l[k]? = some x) (h : partB x = false) : l.all partB = false := by
  rw [List.all_eq_false]
  exact ⟨x, List.mem_of_getElem? hx, by simp [h]⟩
end Go.Proofs.YtpcdfjifhoofjaaDoor.Nm

/- Plain facts: cutting a text at a byte: the library's split and the reference's loop give one list. -/
namespace Go.Proofs.YtpcdfjifhoofjaaDoor.Nm
open Go Go.RowKit
set_option linter.unusedVariables false
set_option linter.unusedSimpArgs false

/-- A list of bytes, cut at each c. -/
def cutAt (c : UInt8) : List UInt8 → List (List UInt8)
  | [] => [[]]
  | b :: r => if b = c then [] :: cutAt c r else match cutAt c r with
    | [] => [[b]]
    | p :: ps => (b :: p) :: ps
theorem cutAt_ne (c : UInt8) (l : List UInt8) : cutAt c l ≠ [] := by
  cases l with
  | nil => simp [cutAt]
  | cons b r =>
    unfold cutAt
    split
    · simp
    · split <;> simp
theorem cutAt_snoc (c : UInt8) (l : List UInt8) (b : UInt8) (L : List (List UInt8)) (P : List UInt8) (h : cutAt c l = L ++ [P]) :
    cutAt c (l ++ [b]) = if b = c then L ++ [P] ++ [[]] else L ++ [P ++ [b]] := by
  induction l generalizing L P with
  | nil =>
    simp only [cutAt] at h
    have : L = [] ∧ P = [] := by
      cases L with
      | nil => simpa using h.symm
      | cons x L => simp at h
    obtain ⟨rfl, rfl⟩ := this
    by_cases hb : b = c <;> simp [cutAt, hb]
  | cons a r ih =>
    rw [List.cons_append]
    unfold cutAt
    unfold cutAt at h
    by_cases ha : a = c
    · rw [if_pos ha] at h ⊢
      cases L with
      | nil => simp at h; exact absurd h.2 (cutAt_ne c r)
      | cons x L =>
        simp only [List.cons_append, List.cons.injEq] at h
        obtain ⟨rfl, h⟩ := h
        rw [ih L P h]
        split <;> simp
    · rw [if_neg ha] at h ⊢
      cases hr : cutAt c r with
      | nil => exact absurd hr (cutAt_ne c r)
      | cons p ps =>
        rw [hr] at h
        simp only at h
        cases L with
        | nil =>
          simp only [List.nil_append, List.cons.injEq] at h
          obtain ⟨rfl, rfl⟩ := h
          have := ih [] p (by simpa using hr)
          rw [this]
          by_cases hb : b = c <;> simp [hb]
        | cons x L =>
          simp only [List.cons_append, List.cons.injEq] at h
          obtain ⟨rfl, rfl⟩ := h
          have := ih (p :: L) P (by simpa using hr)
          rw [this]
          by_cases hb : b = c <;> simp [hb]

theorem splitK_miss (c : UInt8) (k : Nat) (s : List UInt8) (h : Lib.index s [c] = -1) : Lib.splitK [c] 0 k s = [s] := by
  cases k with
  | zero => rfl
  | succ k => rw [Lib.splitK, if_pos (by simp [h])]
theorem splitK_hit (c : UInt8) (k : Nat) (s : List UInt8) (i : Nat) (h : Lib.index s [c] = i) : Lib.splitK [c] 0 (k + 1) s = s.take i :: Lib.splitK [c] 0 k (s.drop (i + 1)) := by
  rw [Lib.splitK, if_neg (by simp [h]), h]
  simp
theorem index_cons (c b : UInt8) (l : List UInt8) : Lib.index (b :: l) [c] = if b = c then 0 else if Lib.index l [c] = -1 then -1 else Lib.index l [c] + 1 := by
  rw [Lib.index]
  by_cases h : b = c
  · subst h; simp [List.isPrefixOf]
  · have : ¬ c = b := fun e => h e.symm
    simp [List.isPrefixOf, h, this]
theorem splitK_cut (c : UInt8) : ∀ s : List UInt8, Lib.splitK [c] 0 (Lib.count s [c]) s = cutAt c s := by
  intro s
  induction s with
  | nil =>
    rw [splitK_miss c _ [] (by simp [Lib.index])]
    rfl
  | cons b l ih =>
    unfold cutAt
    by_cases hb : b = c
    · subst hb
      rw [if_pos rfl, Lib.count_cons_eq, Nat.add_comm, splitK_hit b _ _ 0 (by rw [index_cons, if_pos rfl]; rfl)]
      simp [ih]
    · rw [if_neg hb, Lib.count_cons_ne b c l hb, ← ih]
      by_cases hm : Lib.index l [c] = -1
      · rw [splitK_miss c _ l hm, splitK_miss c _ (b :: l) (by rw [index_cons, if_neg hb, if_pos hm])]
      · have hge := Lib.index_ge l [c]
        obtain ⟨i, hi⟩ : ∃ i : Nat, Lib.index l [c] = i := ⟨(Lib.index l [c]).toNat, by omega⟩
        have hpos : Lib.count l [c] ≠ 0 := by
          rw [Lib.count_one]
          have h1 : Lib.indexByte l c = (i : Int) := by rw [← Lib.index_one]; exact hi
          have h2 := (Lib.indexByte_some h1).1
          have h3 : c ∈ l := List.mem_of_getElem? h2
          have := List.count_pos_iff.2 h3
          omega
        obtain ⟨k, hk⟩ : ∃ k, Lib.count l [c] = k + 1 := ⟨Lib.count l [c] - 1, by omega⟩
        rw [hk, splitK_hit c k l i hi, splitK_hit c k (b :: l) (i + 1) (by rw [index_cons, if_neg hb, if_neg hm, hi]; simp)]
        simp

theorem partsB_data (s : ByteArray) : (partsB s).map (·.data.toList) = cutAt 47 s.data.toList := by
  unfold partsB
  rw [Lib.splitB_data, ← splitK_cut]

/-- arbiterref01.Parts behind k bytes: the list, and where the next part begins. -/
def rparts (s : ByteArray) : Nat → List ByteArray × Nat
  | 0 => ([], 0)
  | k + 1 => if bt s k = 47 then ((rparts s k).1 ++ [s.extract (rparts s k).2 k], k + 1) else rparts s k
theorem rparts_succ (s : ByteArray) (k : Nat) : rparts s (k + 1) = if bt s k = 47 then ((rparts s k).1 ++ [s.extract (rparts s k).2 k], k + 1) else rparts s k := rfl
theorem rparts_le (s : ByteArray) (k : Nat) : (rparts s k).2 ≤ k ∧ (rparts s k).1.length ≤ k := by
  induction k with
  | zero => simp [rparts]
  | succ k ih =>
    unfold rparts
    split
    · simp; omega
    · omega
theorem ex_data (s : ByteArray) (i j : Nat) : (s.extract i j).data.toList = (s.data.toList.take j).drop i := by
  rw [Lib.extract_data]
  simp [List.drop_take]
theorem rparts_cut (s : ByteArray) (k : Nat) (hk : k ≤ s.size) :
    cutAt 47 (s.data.toList.take k) = (rparts s k).1.map (·.data.toList) ++ [(s.extract (rparts s k).2 k).data.toList] := by
  induction k with
  | zero => simp [rparts, cutAt]
  | succ k ih =>
    have ih := ih (by omega)
    have hlen : k < s.data.toList.length := by rw [Array.length_toList]; exact hk
    have hle := (rparts_le s k).1
    have hbt : bt s k = 47 ↔ s.data.toList[k] = 47 := by
      unfold bt
      rw [List.getD_eq_getElem?_getD, List.getElem?_eq_getElem hlen, Option.getD_some]
      constructor
      · intro h
        apply UInt8.toNat_inj.1
        have : (47 : UInt8).toNat = 47 := rfl
        omega
      · intro h; rw [h]; rfl
    rw [List.take_succ_eq_append_getElem hlen, cutAt_snoc 47 _ _ _ _ ih]
    rw [rparts_succ]
    by_cases h : bt s k = 47
    · rw [if_pos h, if_pos (hbt.1 h), List.map_append, ex_data s (k + 1) (k + 1)]
      simp
    · rw [if_neg h, if_neg (fun e => h (hbt.2 e)), ex_data, ex_data, List.take_succ_eq_append_getElem hlen, List.drop_append_of_le_length (by rw [List.length_take]; omega)]
theorem bytes_inj {a b : ByteArray} (h : a.data.toList = b.data.toList) : a = b := by
  apply ByteArray.ext
  exact Array.toList_inj.1 h
theorem map_inj : ∀ {l m : List ByteArray}, l.map (·.data.toList) = m.map (·.data.toList) → l = m
  | [], [], _ => rfl
  | [], _ :: _, h => by simp at h
  | _ :: _, [], h => by simp at h
  | a :: l, b :: m, h => by
    simp only [List.map_cons, List.cons.injEq] at h
    rw [bytes_inj h.1, map_inj h.2]
theorem rparts_all (s : ByteArray) : (rparts s s.size).1 ++ [s.extract (rparts s s.size).2 s.size] = partsB s := by
  apply map_inj
  rw [partsB_data, List.map_append]
  have := rparts_cut s s.size (Nat.le_refl _)
  rw [List.take_of_length_le (by rw [Array.length_toList]; exact Nat.le_refl _)] at this
  rw [this]
  rfl
theorem cutAt_len (c : UInt8) (l p : List UInt8) (h : p ∈ cutAt c l) : p.length ≤ l.length := by
  induction l generalizing p with
  | nil => simp [cutAt] at h; simp [h]
  | cons b r ih =>
    unfold cutAt at h
    split at h
    · rcases List.mem_cons.1 h with rfl | h
      · simp
      · have := ih p h; simp only [List.length_cons]; omega
    · split at h
      · rename_i e; exact absurd e (cutAt_ne c r)
      · rename_i q qs e
        rcases List.mem_cons.1 h with rfl | h
        · have := ih q (by rw [e]; simp); simp only [List.length_cons]; omega
        · have := ih p (by rw [e]; simp [h]); simp only [List.length_cons]; omega
theorem partsB_size (s x : ByteArray) (hx : x ∈ partsB s) : x.size ≤ s.size := by
  have h : x.data.toList ∈ cutAt 47 s.data.toList := by rw [← partsB_data]; exact List.mem_map_of_mem hx
  have := cutAt_len _ _ _ h
  rw [Array.length_toList, Array.length_toList] at this
  exact this
end Go.Proofs.YtpcdfjifhoofjaaDoor.Nm

/-
  DERIVED: THE SHELF's CONTRACTS AT THIS DUMP, IN PLAIN WORDS (tools/lay-plain.mjs out of 'TrydShelf.lean', which tools/lay-shelf.mjs wrote): THE SAME DECLARATIONS UNDER THE SAME NAMES: 'import', 'namespace', 'open', 'def', 'theorem' AND NOTHING ELSE: no command of the shelf's: FOR A HAND-IN. Each laying: the table of numbers ('.._ren') and one theorem, a field a fact of the dump's own or the kernel's comparison; each contract: ONE APPLICATION.
-/
namespace Go.Proofs
open Go.Shelf
def Tryd.lays170_ren : Go.Shelf.Ren := ⟨fun | 170 => 75 | n => n, fun | 70 => 77 | 3 => 3 | 0 => 0 | 72 => 80 | 37 => 78 | 5 => 5 | n => n, fun | n => n⟩
theorem Tryd.lays170 : Go.Proofs.Lays.n170 Tryd.prog Tryd.lays170_ren := {
  mixed := by kernel_rfl
  f170 := Tryd.func75.trans (congrArg some (by kernel_rfl))
  t0 := Tryd.underlying0
  a0 := Tryd.isAgg0
  z0 := Tryd.sizeOf0
  v0 := Tryd.zeroValue0
  t3 := Tryd.underlying3
  a3 := Tryd.isAgg3
  z3 := Tryd.sizeOf3
  v3 := Tryd.zeroValue3
  t37 := Tryd.underlying78
  a37 := Tryd.isAgg78
  z37 := Tryd.sizeOf78
  v37 := Tryd.zeroValue78
  t70 := Tryd.underlying77
  a70 := Tryd.isAgg77
  z70 := Tryd.sizeOf77
  v70 := Tryd.zeroValue77
  t72 := Tryd.underlying80
  a72 := Tryd.isAgg80
  z72 := Tryd.sizeOf80
  v72 := Tryd.zeroValue80 }
open Go.RowKit in
/-- (*strings.Builder).Len: "Len returns the number of accumulated bytes; b.Len() == len(b.String()).": the world is as it was. (LAID: no walk: one application.) -/
theorem Tryd.Builder_Len (B b : Nat) (bs : List Value) (w : World) (h : Lib.IsBuilder 80 5 B b bs w) :
    Calls Tryd.prog 75 #[.pointer (some ⟨b, 0, none⟩)] w fun e w' => e = .returned (.int .i64 bs.length) ∧ w' = w := Any.Builder_Len Tryd.lays170 B b bs w h
def Tryd.lays169_ren : Go.Shelf.Ren := ⟨fun | 169 => 76 | n => n, fun | 70 => 77 | 9 => 9 | 0 => 0 | 72 => 80 | 37 => 78 | 127 => 96 | 3 => 3 | 5 => 5 | n => n, fun | n => n⟩
theorem Tryd.lays169 : Go.Proofs.Lays.n169 Tryd.prog Tryd.lays169_ren := {
  mixed := by kernel_rfl
  f169 := Tryd.func76.trans (congrArg some (by kernel_rfl))
  t0 := Tryd.underlying0
  a0 := Tryd.isAgg0
  z0 := Tryd.sizeOf0
  v0 := Tryd.zeroValue0
  t3 := Tryd.underlying3
  a3 := Tryd.isAgg3
  z3 := Tryd.sizeOf3
  v3 := Tryd.zeroValue3
  t9 := Tryd.underlying9
  a9 := Tryd.isAgg9
  z9 := Tryd.sizeOf9
  v9 := Tryd.zeroValue9
  t37 := Tryd.underlying78
  a37 := Tryd.isAgg78
  z37 := Tryd.sizeOf78
  v37 := Tryd.zeroValue78
  t70 := Tryd.underlying77
  a70 := Tryd.isAgg77
  z70 := Tryd.sizeOf77
  v70 := Tryd.zeroValue77
  t72 := Tryd.underlying80
  a72 := Tryd.isAgg80
  z72 := Tryd.sizeOf80
  v72 := Tryd.zeroValue80
  t127 := Tryd.underlying96
  a127 := Tryd.isAgg96
  z127 := Tryd.sizeOf96
  v127 := Tryd.zeroValue96 }
theorem Tryd.Builder_Extra_169 : Builder.Extra Tryd.prog Tryd.lays169_ren := {
  sizeBuilder := by kernel_rfl
  liesBuilder := by kernel_rfl
  t5 := Tryd.underlying5
  a5 := Tryd.isAgg5
  z5 := Tryd.sizeOf5
  v5 := Tryd.zeroValue5
  infoByte := by kernel_rfl
  cellsByte := by kernel_rfl
  sizeByte := by kernel_rfl
  neB5 := by decide }
open Go.RowKit in
/-- (*strings.Builder).String: "String returns the accumulated string.": OF A BUILDER THAT HOLDS AT LEAST ONE BYTE. ✋ THE MODEL FREEZES THOSE BYTES IN THE BUFFER (unsafe.String): a later write INTO them ends the model's run without an answer; a later append BEHIND them goes on. The statement's order of evaluation is drawn: one draw. (LAID: no walk: one application.) -/
theorem Tryd.Builder_String (B b : Nat) (l : List UInt8) (w : World) (h : Lib.IsBuilder 80 5 B b (Lib.byteCells l) w) (h0 : l ≠ []) :
    Calls Tryd.prog 76 #[.pointer (some ⟨b, 0, none⟩)] w fun e w' => e = .returned (.string ⟨l.toArray⟩) ∧ Below B w w' := Any.Builder_String Tryd.lays169 Tryd.Builder_Extra_169 B b l w h h0
open Go.RowKit in
/-- (*strings.Builder).String OF A BUILDER THAT HOLDS NO BYTE: the empty string. (Its buffer is nil, or a row of which it has taken nothing yet; where that row has NO capacity the model lays one new block for unsafe.SliceData's 'some address'.) One draw. (LAID: no walk: one application.) -/
theorem Tryd.Builder_String_empty (B b : Nat) (w : World) (h : Lib.IsBuilder 80 5 B b [] w) (hBw : B ≤ w.heap.size) :
    Calls Tryd.prog 76 #[.pointer (some ⟨b, 0, none⟩)] w fun e w' => e = .returned (.string ⟨#[]⟩) ∧ Below B w w' := Any.Builder_String_empty Tryd.lays169 Tryd.Builder_Extra_169 B b w h hBw
open Go.RowKit in
/-- (*strings.Builder).String: "String returns the accumulated string.": WHATEVER THE BUILDER HOLDS. (LAID: no walk: one application.) -/
theorem Tryd.Builder_String_any (B b : Nat) (l : List UInt8) (w : World) (h : Lib.IsBuilder 80 5 B b (Lib.byteCells l) w) (hBw : B ≤ w.heap.size) :
    Calls Tryd.prog 76 #[.pointer (some ⟨b, 0, none⟩)] w fun e w' => e = .returned (.string ⟨l.toArray⟩) ∧ Below B w w' := Any.Builder_String_any Tryd.lays169 Tryd.Builder_Extra_169 B b l w h hBw
def Tryd.lays241_ren : Go.Shelf.Ren := ⟨fun | 241 => 92 | 277 => 100 | n => n, fun | 70 => 77 | 3 => 3 | 0 => 0 | 72 => 80 | 37 => 78 | 5 => 5 | n => n, fun | n => n⟩
theorem Tryd.lays241 : Go.Proofs.Lays.n241 Tryd.prog Tryd.lays241_ren := {
  mixed := by kernel_rfl
  f241 := Tryd.func92.trans (congrArg some (by kernel_rfl))
  f277 := Tryd.func100.trans (congrArg some (by kernel_rfl))
  t0 := Tryd.underlying0
  a0 := Tryd.isAgg0
  z0 := Tryd.sizeOf0
  v0 := Tryd.zeroValue0
  t3 := Tryd.underlying3
  a3 := Tryd.isAgg3
  z3 := Tryd.sizeOf3
  v3 := Tryd.zeroValue3
  t37 := Tryd.underlying78
  a37 := Tryd.isAgg78
  z37 := Tryd.sizeOf78
  v37 := Tryd.zeroValue78
  t70 := Tryd.underlying77
  a70 := Tryd.isAgg77
  z70 := Tryd.sizeOf77
  v70 := Tryd.zeroValue77
  t72 := Tryd.underlying80
  a72 := Tryd.isAgg80
  z72 := Tryd.sizeOf80
  v72 := Tryd.zeroValue80 }
theorem Tryd.Builder_Extra_241 : Builder.Extra Tryd.prog Tryd.lays241_ren := {
  sizeBuilder := by kernel_rfl
  liesBuilder := by kernel_rfl
  t5 := Tryd.underlying5
  a5 := Tryd.isAgg5
  z5 := Tryd.sizeOf5
  v5 := Tryd.zeroValue5
  infoByte := by kernel_rfl
  cellsByte := by kernel_rfl
  sizeByte := by kernel_rfl
  neB5 := by decide }
open Go.RowKit in
/-- (*strings.Builder).grow (no doc but "grow copies the buffer to a new, larger buffer so that there are at least n bytes of capacity beyond len(b.buf)."): AT A BUILDER WITHOUT A BUFFER: a new row of whatever bytes for its buffer, none of them its own yet. Three draws. (LAID: no walk: one application.) -/
theorem Tryd.Builder_grow_fresh (B b n : Nat) (w : World) (hB : B ≤ b) (hbk : w.heap[b]? = some (.cells #[.pointer (some ⟨b, 0, none⟩), .slice none 0 0] 80 (0, 0))) (hBw : B ≤ w.heap.size) (hn : n ≤ 281474976710656) :
    Calls Tryd.prog 92 #[.pointer (some ⟨b, 0, none⟩), .int .i64 n] w fun e w' => e = .returned (.tuple #[]) ∧ (Lib.BuilderAt 80 5 B b (.pointer (some ⟨b, 0, none⟩)) [] w' ∧ Below B w w') := Any.Builder_grow_fresh Tryd.lays241 Tryd.Builder_Extra_241 B b n w hB hbk hBw hn
def Tryd.lays165_ren : Go.Shelf.Ren := ⟨fun | 165 => 82 | 240 => 87 | 241 => 92 | 276 => 95 | 277 => 100 | n => n, fun | 70 => 77 | 3 => 3 | 0 => 0 | 4 => 4 | 9 => 9 | 20 => 20 | 72 => 80 | 37 => 78 | 164 => 101 | 5 => 5 | n => n, fun | n => n⟩
theorem Tryd.lays165 : Go.Proofs.Lays.n165 Tryd.prog Tryd.lays165_ren := {
  mixed := by kernel_rfl
  f165 := Tryd.func82.trans (congrArg some (by kernel_rfl))
  f240 := Tryd.func87.trans (congrArg some (by kernel_rfl))
  f241 := Tryd.func92.trans (congrArg some (by kernel_rfl))
  f276 := Tryd.func95.trans (congrArg some (by kernel_rfl))
  f277 := Tryd.func100.trans (congrArg some (by kernel_rfl))
  t0 := Tryd.underlying0
  a0 := Tryd.isAgg0
  z0 := Tryd.sizeOf0
  v0 := Tryd.zeroValue0
  t3 := Tryd.underlying3
  a3 := Tryd.isAgg3
  z3 := Tryd.sizeOf3
  v3 := Tryd.zeroValue3
  t4 := Tryd.underlying4
  a4 := Tryd.isAgg4
  z4 := Tryd.sizeOf4
  v4 := Tryd.zeroValue4
  t9 := Tryd.underlying9
  a9 := Tryd.isAgg9
  z9 := Tryd.sizeOf9
  v9 := Tryd.zeroValue9
  t20 := Tryd.underlying20
  a20 := Tryd.isAgg20
  z20 := Tryd.sizeOf20
  v20 := Tryd.zeroValue20
  t37 := Tryd.underlying78
  a37 := Tryd.isAgg78
  z37 := Tryd.sizeOf78
  v37 := Tryd.zeroValue78
  t70 := Tryd.underlying77
  a70 := Tryd.isAgg77
  z70 := Tryd.sizeOf77
  v70 := Tryd.zeroValue77
  t72 := Tryd.underlying80
  a72 := Tryd.isAgg80
  z72 := Tryd.sizeOf80
  v72 := Tryd.zeroValue80
  t164 := Tryd.underlying101
  a164 := Tryd.isAgg101
  z164 := Tryd.sizeOf101
  v164 := Tryd.zeroValue101 }
theorem Tryd.Builder_Extra_165 : Builder.Extra Tryd.prog Tryd.lays165_ren := {
  sizeBuilder := by kernel_rfl
  liesBuilder := by kernel_rfl
  t5 := Tryd.underlying5
  a5 := Tryd.isAgg5
  z5 := Tryd.sizeOf5
  v5 := Tryd.zeroValue5
  infoByte := by kernel_rfl
  cellsByte := by kernel_rfl
  sizeByte := by kernel_rfl
  neB5 := by decide }
open Go.RowKit in
/-- (*strings.Builder).Grow AT A BUILDER THAT HAS NOT BEEN WRITTEN ('var b strings.Builder; b.Grow(n)'): "Grow grows b's capacity, if necessary, to guarantee space for another n bytes.": it holds no byte behind it as before it. (LAID: no walk: one application.) -/
theorem Tryd.Builder_Grow_fresh (B b n : Nat) (w : World) (hB : B ≤ b) (hbk : w.heap[b]? = some (.cells #[.pointer none, .slice none 0 0] 80 (0, 0))) (hBw : B ≤ w.heap.size) (hn : n ≤ 281474976710656) :
    Calls Tryd.prog 82 #[.pointer (some ⟨b, 0, none⟩), .int .i64 n] w fun e w' => e = .returned (.tuple #[]) ∧ (Lib.BuilderAt 80 5 B b (.pointer (some ⟨b, 0, none⟩)) [] w' ∧ Below B w w') := Any.Builder_Grow_fresh Tryd.lays165 Tryd.Builder_Extra_165 B b n w hB hbk hBw hn
def Tryd.lays156_ren : Go.Shelf.Ren := ⟨fun | 156 => 62 | 165 => 82 | 166 => 74 | 169 => 76 | 240 => 87 | 241 => 92 | 276 => 95 | 277 => 100 | n => n, fun | 31 => 25 | 9 => 9 | 3 => 3 | 4 => 4 | 0 => 0 | 20 => 20 | 72 => 80 | 76 => 84 | 70 => 77 | 37 => 78 | 75 => 82 | 127 => 96 | 164 => 101 | 5 => 5 | 80 => 87 | n => n, fun | n => n⟩
theorem Tryd.lays156 : Go.Proofs.Lays.n156 Tryd.prog Tryd.lays156_ren := {
  mixed := by kernel_rfl
  f156 := Tryd.func62.trans (congrArg some (by kernel_rfl))
  f165 := Tryd.func82.trans (congrArg some (by kernel_rfl))
  f166 := Tryd.func74.trans (congrArg some (by kernel_rfl))
  f169 := Tryd.func76.trans (congrArg some (by kernel_rfl))
  f240 := Tryd.func87.trans (congrArg some (by kernel_rfl))
  f241 := Tryd.func92.trans (congrArg some (by kernel_rfl))
  f276 := Tryd.func95.trans (congrArg some (by kernel_rfl))
  f277 := Tryd.func100.trans (congrArg some (by kernel_rfl))
  t0 := Tryd.underlying0
  a0 := Tryd.isAgg0
  z0 := Tryd.sizeOf0
  v0 := Tryd.zeroValue0
  t3 := Tryd.underlying3
  a3 := Tryd.isAgg3
  z3 := Tryd.sizeOf3
  v3 := Tryd.zeroValue3
  t4 := Tryd.underlying4
  a4 := Tryd.isAgg4
  z4 := Tryd.sizeOf4
  v4 := Tryd.zeroValue4
  t9 := Tryd.underlying9
  a9 := Tryd.isAgg9
  z9 := Tryd.sizeOf9
  v9 := Tryd.zeroValue9
  t20 := Tryd.underlying20
  a20 := Tryd.isAgg20
  z20 := Tryd.sizeOf20
  v20 := Tryd.zeroValue20
  t31 := Tryd.underlying25
  a31 := Tryd.isAgg25
  z31 := Tryd.sizeOf25
  v31 := Tryd.zeroValue25
  t37 := Tryd.underlying78
  a37 := Tryd.isAgg78
  z37 := Tryd.sizeOf78
  v37 := Tryd.zeroValue78
  t70 := Tryd.underlying77
  a70 := Tryd.isAgg77
  z70 := Tryd.sizeOf77
  v70 := Tryd.zeroValue77
  t72 := Tryd.underlying80
  a72 := Tryd.isAgg80
  z72 := Tryd.sizeOf80
  v72 := Tryd.zeroValue80
  t75 := Tryd.underlying82
  a75 := Tryd.isAgg82
  z75 := Tryd.sizeOf82
  v75 := Tryd.zeroValue82
  t76 := Tryd.underlying84
  a76 := Tryd.isAgg84
  z76 := Tryd.sizeOf84
  v76 := Tryd.zeroValue84
  t127 := Tryd.underlying96
  a127 := Tryd.isAgg96
  z127 := Tryd.sizeOf96
  v127 := Tryd.zeroValue96
  t164 := Tryd.underlying101
  a164 := Tryd.isAgg101
  z164 := Tryd.sizeOf101
  v164 := Tryd.zeroValue101 }
theorem Tryd.Builder_Extra_156 : Builder.Extra Tryd.prog Tryd.lays156_ren := {
  sizeBuilder := by kernel_rfl
  liesBuilder := by kernel_rfl
  t5 := Tryd.underlying5
  a5 := Tryd.isAgg5
  z5 := Tryd.sizeOf5
  v5 := Tryd.zeroValue5
  infoByte := by kernel_rfl
  cellsByte := by kernel_rfl
  sizeByte := by kernel_rfl
  neB5 := by decide }
open Go.RowKit in
/-- No element: the empty string; the world is as it was. (Whatever the slice's address and capacity: a nil slice too.) (LAID: no walk: one application.) -/
theorem Tryd.strings_Join_none (a : Option Addr) (c : Nat) (sep : ByteArray) (w : World) :
    Calls Tryd.prog 62 #[.slice a 0 c, .string sep] w fun e w' => e = .returned (.string ⟨#[]⟩) ∧ w' = w := Any.strings_Join_none Tryd.lays156 Tryd.Builder_Extra_156 a c sep w
open Go.RowKit in
/-- strings.Join: "Join concatenates the elements of its first argument to create a single string. The separator string sep is placed between elements in the resulting string.": HOWEVER MANY ELEMENTS. Below the heap's end the world is as it was. (LAID: no walk: one application.) -/
theorem Tryd.strings_Join (bk o c : Nat) (xs : List ByteArray) (sep : ByteArray) (w : World) (hcells : ∀ (j : Nat) x, xs[j]? = some x → w.cell? ⟨bk, o + j, none⟩ = some (.string x)) (hbk : bk < w.heap.size) (hN : xs.length ≤ 140737488355328) (hcap : xs.length ≤ c) (hlen : (Lib.join (xs.map (·.data.toList)) sep.data.toList).length ≤ 140737488355328) :
    Calls Tryd.prog 62 #[.slice (some ⟨bk, o, none⟩) xs.length c, .string sep] w fun e w' => e = .returned (.string ⟨(Lib.join (xs.map (·.data.toList)) sep.data.toList).toArray⟩) ∧ Below w.heap.size w w' := Any.strings_Join Tryd.lays156 Tryd.Builder_Extra_156 bk o c xs sep w hcells hbk hN hcap hlen
open Go.RowKit in
/-- (*strings.Builder).Len: "Len returns the number of accumulated bytes; b.Len() == len(b.String()).": the world is as it was. (THE FORM '_f': 'Lib.IsBuilderF'.) (LAID: no walk: one application.) -/
theorem Tryd.Builder_Len_f (B b : Nat) (bs : List Value) (w : World) (h : Lib.IsBuilderF 80 5 B b bs w) :
    Calls Tryd.prog 75 #[.pointer (some ⟨b, 0, none⟩)] w fun e w' => e = .returned (.int .i64 bs.length) ∧ w' = w := Any.Builder_Len_f Tryd.lays170 B b bs w h
open Go.RowKit in
/-- (*strings.Builder).String: "String returns the accumulated string.": OF A BUILDER THAT HOLDS AT LEAST ONE BYTE. ✋ THE MODEL FREEZES THOSE BYTES IN THE BUFFER (unsafe.String): a later write INTO them ends the model's run without an answer; a later append BEHIND them goes on. The statement's order of evaluation is drawn: one draw. THE FORM '_f': IT SAYS BESIDES THAT THE BUILDER IS A BUILDER STILL ('Lib.IsBuilderF', the same bytes): SO IT CAN BE WRITTEN ON: 'b.WriteString(b.String()[:k])'. (LAID: no walk: one application.) -/
theorem Tryd.Builder_String_f (B b : Nat) (l : List UInt8) (w : World) (h : Lib.IsBuilderF 80 5 B b (Lib.byteCells l) w) (h0 : l ≠ []) :
    Calls Tryd.prog 76 #[.pointer (some ⟨b, 0, none⟩)] w fun e w' => e = .returned (.string ⟨l.toArray⟩) ∧ (Lib.IsBuilderF 80 5 B b (Lib.byteCells l) w' ∧ Below B w w') := Any.Builder_String_f Tryd.lays169 Tryd.Builder_Extra_169 B b l w h h0
open Go.RowKit in
/-- (*strings.Builder).String OF A BUILDER THAT HOLDS NO BYTE: the empty string; THE FORM '_f': a builder still. (LAID: no walk: one application.) -/
theorem Tryd.Builder_String_empty_f (B b : Nat) (w : World) (h : Lib.IsBuilderF 80 5 B b [] w) (hBw : B ≤ w.heap.size) :
    Calls Tryd.prog 76 #[.pointer (some ⟨b, 0, none⟩)] w fun e w' => e = .returned (.string ⟨#[]⟩) ∧ (Lib.IsBuilderF 80 5 B b [] w' ∧ Below B w w') := Any.Builder_String_empty_f Tryd.lays169 Tryd.Builder_Extra_169 B b w h hBw
open Go.RowKit in
/-- (*strings.Builder).String: "String returns the accumulated string.": WHATEVER THE BUILDER HOLDS; THE FORM '_f': OF A BUILDER THAT MAY HAVE BEEN READ BEFORE; AND IT IS A BUILDER STILL, holding the same bytes: it can be written on. (LAID: no walk: one application.) -/
theorem Tryd.Builder_String_any_f (B b : Nat) (l : List UInt8) (w : World) (h : Lib.IsBuilderF 80 5 B b (Lib.byteCells l) w) (hBw : B ≤ w.heap.size) :
    Calls Tryd.prog 76 #[.pointer (some ⟨b, 0, none⟩)] w fun e w' => e = .returned (.string ⟨l.toArray⟩) ∧ (Lib.IsBuilderF 80 5 B b (Lib.byteCells l) w' ∧ Below B w w') := Any.Builder_String_any_f Tryd.lays169 Tryd.Builder_Extra_169 B b l w h hBw
open Go.RowKit in
/-- (*strings.Builder).String: "String returns the accumulated string.": OF A BUILDER THAT HOLDS AT LEAST ONE BYTE. ✋ THE MODEL FREEZES THOSE BYTES IN THE BUFFER (unsafe.String): a later write INTO them ends the model's run without an answer; a later append BEHIND them goes on. The statement's order of evaluation is drawn: one draw. THE FORM '_k': OVER 'Lib.IsBuilderF' (a builder that 'String()' may have read), AND WITH THE FRAME THAT REACHES ABOVE THE BUILDER: 'Lib.OthersKept': every block that is not b and is no row of uint8's stands as it stood: the iterator of a range among them. (LAID: no walk: one application.) -/
theorem Tryd.Builder_String_k (B b : Nat) (l : List UInt8) (w : World) (h : Lib.IsBuilderF 80 5 B b (Lib.byteCells l) w) (h0 : l ≠ []) :
    Calls Tryd.prog 76 #[.pointer (some ⟨b, 0, none⟩)] w fun e w' => e = .returned (.string ⟨l.toArray⟩) ∧ (Lib.IsBuilderF 80 5 B b (Lib.byteCells l) w' ∧ Below B w w' ∧ Lib.OthersKept 5 (some b) w w') := Any.Builder_String_k Tryd.lays169 Tryd.Builder_Extra_169 B b l w h h0
open Go.RowKit in
/-- (*strings.Builder).String OF A BUILDER THAT HOLDS NO BYTE: the empty string; THE FORM '_k': OVER 'Lib.IsBuilderF' (a builder that 'String()' may have read), AND WITH THE FRAME THAT REACHES ABOVE THE BUILDER: 'Lib.OthersKept': every block that is not b and is no row of uint8's stands as it stood: the iterator of a range among them. (LAID: no walk: one application.) -/
theorem Tryd.Builder_String_empty_k (B b : Nat) (w : World) (h : Lib.IsBuilderF 80 5 B b [] w) (hBw : B ≤ w.heap.size) :
    Calls Tryd.prog 76 #[.pointer (some ⟨b, 0, none⟩)] w fun e w' => e = .returned (.string ⟨#[]⟩) ∧ (Lib.IsBuilderF 80 5 B b [] w' ∧ Below B w w' ∧ Lib.OthersKept 5 (some b) w w') := Any.Builder_String_empty_k Tryd.lays169 Tryd.Builder_Extra_169 B b w h hBw
open Go.RowKit in
/-- (*strings.Builder).String: "String returns the accumulated string.": WHATEVER THE BUILDER HOLDS; THE FORM '_k': OVER 'Lib.IsBuilderF' (a builder that 'String()' may have read), AND WITH THE FRAME THAT REACHES ABOVE THE BUILDER: 'Lib.OthersKept': every block that is not b and is no row of uint8's stands as it stood: the iterator of a range among them. (LAID: no walk: one application.) -/
theorem Tryd.Builder_String_any_k (B b : Nat) (l : List UInt8) (w : World) (h : Lib.IsBuilderF 80 5 B b (Lib.byteCells l) w) (hBw : B ≤ w.heap.size) :
    Calls Tryd.prog 76 #[.pointer (some ⟨b, 0, none⟩)] w fun e w' => e = .returned (.string ⟨l.toArray⟩) ∧ (Lib.IsBuilderF 80 5 B b (Lib.byteCells l) w' ∧ Below B w w' ∧ Lib.OthersKept 5 (some b) w w') := Any.Builder_String_any_k Tryd.lays169 Tryd.Builder_Extra_169 B b l w h hBw
def Tryd.lays195_ren : Go.Shelf.Ren := ⟨fun | 195 => 96 | n => n, fun | 9 => 9 | 3 => 3 | 0 => 0 | 4 => 4 | n => n, fun | n => n⟩
theorem Tryd.lays195 : Go.Proofs.Lays.n195 Tryd.prog Tryd.lays195_ren := {
  mixed := by kernel_rfl
  f195 := Tryd.func96.trans (congrArg some (by kernel_rfl))
  t0 := Tryd.underlying0
  a0 := Tryd.isAgg0
  z0 := Tryd.sizeOf0
  v0 := Tryd.zeroValue0
  t3 := Tryd.underlying3
  a3 := Tryd.isAgg3
  z3 := Tryd.sizeOf3
  v3 := Tryd.zeroValue3
  t4 := Tryd.underlying4
  a4 := Tryd.isAgg4
  z4 := Tryd.sizeOf4
  v4 := Tryd.zeroValue4
  t9 := Tryd.underlying9
  a9 := Tryd.isAgg9
  z9 := Tryd.sizeOf9
  v9 := Tryd.zeroValue9 }
open Go.RowKit in
/-- unicode/utf8.RuneCountInString: "RuneCountInString is like RuneCount but its input is a string." ("RuneCount returns the number of runes in p. Erroneous and short encodings are treated as single runes of width 1 byte."): EVERY STRING, valid UTF-8 or not: 'Lib.runeCount s' (plain Lean over the model's own 'Utf8.decode'; 'Lib.runeCount_le': at most len(s); 'Lib.runeCount_ascii': on ASCII: len(s)). THE ONE CONDITION: len(s) below 2^63 - 1 (the counter does not wrap): the form's reach pays it. THE WORLD BEHIND THE CALL: ONE BLOCK MORE: the model's iterator over s, at its end: all else as it was. (LAID: no walk: one application.) -/
theorem Tryd.utf8_RuneCountInString (s : ByteArray) (w : World) (hs : s.size < 9223372036854775807) :
    Calls Tryd.prog 96 #[.string s] w fun e w' => e = .returned (.int .i64 (Lib.runeCount s)) ∧ ∃ pos, w' = w.iter s pos := Any.utf8_RuneCountInString Tryd.lays195 s w hs
open Go.RowKit in
/-- (*strings.Builder).grow (no doc but "grow copies the buffer to a new, larger buffer so that there are at least n bytes of capacity beyond len(b.buf)."): AT A BUILDER WITHOUT A BUFFER: a new row of whatever bytes for its buffer, none of them its own yet. Three draws. (LAID: no walk: one application.) -/
theorem Tryd.Builder_grow_fresh_cap (B b n : Nat) (w : World) (hB : B ≤ b) (hbk : w.heap[b]? = some (.cells #[.pointer (some ⟨b, 0, none⟩), .slice none 0 0] 80 (0, 0))) (hBw : B ≤ w.heap.size) (hn : n ≤ 281474976710656) :
    Calls Tryd.prog 92 #[.pointer (some ⟨b, 0, none⟩), .int .i64 n] w fun e w' => e = .returned (.tuple #[]) ∧ (Lib.BuilderAt 80 5 B b (.pointer (some ⟨b, 0, none⟩)) [] w' ∧ Below B w w') ∧ ∃ p cap, w'.cell? ⟨b, 1, none⟩ = some (.slice p 0 cap) ∧ n ≤ cap := Any.Builder_grow_fresh_cap Tryd.lays241 Tryd.Builder_Extra_241 B b n w hB hbk hBw hn
open Go.RowKit in
/-- (*strings.Builder).Grow AT A BUILDER THAT HAS NOT BEEN WRITTEN ('var b strings.Builder; b.Grow(n)'): "Grow grows b's capacity, if necessary, to guarantee space for another n bytes.": it holds no byte behind it as before it. (LAID: no walk: one application.) -/
theorem Tryd.Builder_Grow_fresh_cap (B b n : Nat) (w : World) (hB : B ≤ b) (hbk : w.heap[b]? = some (.cells #[.pointer none, .slice none 0 0] 80 (0, 0))) (hBw : B ≤ w.heap.size) (hn : n ≤ 281474976710656) :
    Calls Tryd.prog 82 #[.pointer (some ⟨b, 0, none⟩), .int .i64 n] w fun e w' => e = .returned (.tuple #[]) ∧ (Lib.BuilderAt 80 5 B b (.pointer (some ⟨b, 0, none⟩)) [] w' ∧ Below B w w') ∧ ∃ p cap, w'.cell? ⟨b, 1, none⟩ = some (.slice p 0 cap) ∧ n ≤ cap := Any.Builder_Grow_fresh_cap Tryd.lays165 Tryd.Builder_Extra_165 B b n w hB hbk hBw hn
def Tryd.lays217_ren : Go.Shelf.Ren := ⟨fun | 217 => 104 | 266 => 108 | n => n, fun | 9 => 9 | 5 => 5 | 3 => 3 | n => n, fun | n => n⟩
theorem Tryd.lays217 : Go.Proofs.Lays.n217 Tryd.prog Tryd.lays217_ren := {
  mixed := by kernel_rfl
  f217 := Tryd.func104.trans (congrArg some (by kernel_rfl))
  f266 := Tryd.func108.trans (congrArg some (by kernel_rfl))
  t3 := Tryd.underlying3
  a3 := Tryd.isAgg3
  z3 := Tryd.sizeOf3
  v3 := Tryd.zeroValue3
  t5 := Tryd.underlying5
  a5 := Tryd.isAgg5
  z5 := Tryd.sizeOf5
  v5 := Tryd.zeroValue5
  t9 := Tryd.underlying9
  a9 := Tryd.isAgg9
  z9 := Tryd.sizeOf9
  v9 := Tryd.zeroValue9 }
open Go.RowKit Go.Lib in
/-- internal/stringslite.IndexByte (what strings.IndexByte calls): IT RETURNS 'Lib.indexByte s c'; the world is as it was. (LAID: no walk: one application.) -/
theorem Tryd.stringslite_IndexByte (s : ByteArray) (c : Int) (w : World) :
    Calls Tryd.prog 104 #[.string s, .int .u8 c] w fun e w' => e = .returned (.int .i64 (Lib.indexByte s.data.toList c.toNat.toUInt8)) ∧ w' = w := Any.stringslite_IndexByte Tryd.lays217 s c w
def Tryd.lays224_ren : Go.Shelf.Ren := ⟨fun | 224 => 106 | n => n, fun | 3 => 3 | n => n, fun | n => n⟩
theorem Tryd.lays224 : Go.Proofs.Lays.n224 Tryd.prog Tryd.lays224_ren := {
  mixed := by kernel_rfl
  f224 := Tryd.func106.trans (congrArg some (by kernel_rfl))
  t3 := Tryd.underlying3
  a3 := Tryd.isAgg3
  z3 := Tryd.sizeOf3
  v3 := Tryd.zeroValue3 }
open Go.RowKit Go.Lib in
/-- internal/bytealg.Cutover: "Cutover reports the number of failures of IndexByte we should tolerate before switching over to Index. n is the number of bytes processed so far.": on amd64: (n + 16) / 8. (LAID: no walk: one application.) -/
theorem Tryd.bytealg_Cutover (n : Int) (h0 : 0 ≤ n) (h1 : n < 4611686018427387904) (w : World) :
    Calls Tryd.prog 106 #[.int .i64 n] w fun e w' => e = .returned (.int .i64 ((n + 16) / 8)) ∧ w' = w := Any.bytealg_Cutover Tryd.lays224 n h0 h1 w
def Tryd.lays314_ren : Go.Shelf.Ren := ⟨fun | 314 => 109 | n => n, fun | 9 => 9 | 51 => 106 | 3 => 3 | 4 => 4 | 5 => 5 | 46 => 98 | n => n, fun | n => n⟩
theorem Tryd.lays314 : Go.Proofs.Lays.n314 Tryd.prog Tryd.lays314_ren := {
  mixed := by kernel_rfl
  f314 := Tryd.func109.trans (congrArg some (by kernel_rfl))
  t3 := Tryd.underlying3
  a3 := Tryd.isAgg3
  z3 := Tryd.sizeOf3
  v3 := Tryd.zeroValue3
  t4 := Tryd.underlying4
  a4 := Tryd.isAgg4
  z4 := Tryd.sizeOf4
  v4 := Tryd.zeroValue4
  t5 := Tryd.underlying5
  a5 := Tryd.isAgg5
  z5 := Tryd.sizeOf5
  v5 := Tryd.zeroValue5
  t9 := Tryd.underlying9
  a9 := Tryd.isAgg9
  z9 := Tryd.sizeOf9
  v9 := Tryd.zeroValue9
  t46 := Tryd.underlying98
  a46 := Tryd.isAgg98
  z46 := Tryd.sizeOf98
  v46 := Tryd.zeroValue98
  t51 := Tryd.underlying106
  a51 := Tryd.isAgg106
  z51 := Tryd.sizeOf106
  v51 := Tryd.zeroValue106 }
open Go.RowKit Go.Lib in
/-- hashStr: "returns the hash and the appropriate multiplicative factor for use in Rabin-Karp algorithm": THE HASH OF ALL OF sep, AND 16777619 ^ len(sep), both in uint32. (LAID: no walk: one application.) -/
theorem Tryd.bytealg_hashStr (sep : ByteArray) (hs : sep.size < 4294967281) (w : World) :
    Calls Tryd.prog 109 #[.string sep] w fun e w' => e = .returned (.tuple #[.int .u32 (RK.H sep.data.toList % 4294967296), .int .u32 (16777619 ^ sep.size % 4294967296)]) ∧ w' = w := Any.bytealg_hashStr Tryd.lays314 sep hs w
def Tryd.lays267_ren : Go.Shelf.Ren := ⟨fun | 267 => 107 | 314 => 109 | n => n, fun | 9 => 9 | 3 => 3 | 146 => 107 | 51 => 106 | 4 => 4 | 5 => 5 | 46 => 98 | n => n, fun | n => n⟩
theorem Tryd.lays267 : Go.Proofs.Lays.n267 Tryd.prog Tryd.lays267_ren := {
  mixed := by kernel_rfl
  f267 := Tryd.func107.trans (congrArg some (by kernel_rfl))
  f314 := Tryd.func109.trans (congrArg some (by kernel_rfl))
  t3 := Tryd.underlying3
  a3 := Tryd.isAgg3
  z3 := Tryd.sizeOf3
  v3 := Tryd.zeroValue3
  t4 := Tryd.underlying4
  a4 := Tryd.isAgg4
  z4 := Tryd.sizeOf4
  v4 := Tryd.zeroValue4
  t5 := Tryd.underlying5
  a5 := Tryd.isAgg5
  z5 := Tryd.sizeOf5
  v5 := Tryd.zeroValue5
  t9 := Tryd.underlying9
  a9 := Tryd.isAgg9
  z9 := Tryd.sizeOf9
  v9 := Tryd.zeroValue9
  t46 := Tryd.underlying98
  a46 := Tryd.isAgg98
  z46 := Tryd.sizeOf98
  v46 := Tryd.zeroValue98
  t51 := Tryd.underlying106
  a51 := Tryd.isAgg106
  z51 := Tryd.sizeOf106
  v51 := Tryd.zeroValue106
  t146 := Tryd.underlying107
  a146 := Tryd.isAgg107
  z146 := Tryd.sizeOf107
  v146 := Tryd.zeroValue107 }
open Go.RowKit Go.Lib in
theorem Tryd.bytealg_IndexRabinKarp (s sep : ByteArray) (h1 : 1 ≤ sep.size) (h2 : sep.size ≤ s.size) (hs : s.size < 4294967281) (w : World) :
    Calls Tryd.prog 107 #[.string s, .string sep] w fun e w' => e = .returned (.int .i64 (Lib.index s.data.toList sep.data.toList)) ∧ w' = w := Any.bytealg_IndexRabinKarp Tryd.lays267 s sep h1 h2 hs w
def Tryd.lays219_ren : Go.Shelf.Ren := ⟨fun | 219 => 99 | 217 => 104 | 225 => 105 | 224 => 106 | 267 => 107 | 266 => 108 | 314 => 109 | n => n, fun | 9 => 9 | 3 => 3 | 4 => 4 | 5 => 5 | 46 => 98 | 146 => 107 | 51 => 106 | n => n, fun | 1 => 0 | n => n⟩
theorem Tryd.lays219 : Go.Proofs.Lays.n219 Tryd.prog Tryd.lays219_ren := {
  mixed := by kernel_rfl
  f217 := Tryd.func104.trans (congrArg some (by kernel_rfl))
  f219 := Tryd.func99.trans (congrArg some (by kernel_rfl))
  f224 := Tryd.func106.trans (congrArg some (by kernel_rfl))
  f225 := Tryd.func105.trans (congrArg some (by kernel_rfl))
  f266 := Tryd.func108.trans (congrArg some (by kernel_rfl))
  f267 := Tryd.func107.trans (congrArg some (by kernel_rfl))
  f314 := Tryd.func109.trans (congrArg some (by kernel_rfl))
  t3 := Tryd.underlying3
  a3 := Tryd.isAgg3
  z3 := Tryd.sizeOf3
  v3 := Tryd.zeroValue3
  t4 := Tryd.underlying4
  a4 := Tryd.isAgg4
  z4 := Tryd.sizeOf4
  v4 := Tryd.zeroValue4
  t5 := Tryd.underlying5
  a5 := Tryd.isAgg5
  z5 := Tryd.sizeOf5
  v5 := Tryd.zeroValue5
  t9 := Tryd.underlying9
  a9 := Tryd.isAgg9
  z9 := Tryd.sizeOf9
  v9 := Tryd.zeroValue9
  t46 := Tryd.underlying98
  a46 := Tryd.isAgg98
  z46 := Tryd.sizeOf98
  v46 := Tryd.zeroValue98
  t51 := Tryd.underlying106
  a51 := Tryd.isAgg106
  z51 := Tryd.sizeOf106
  v51 := Tryd.zeroValue106
  t146 := Tryd.underlying107
  a146 := Tryd.isAgg107
  z146 := Tryd.sizeOf107
  v146 := Tryd.zeroValue107
  g1 := by kernel_rfl }
open Go.RowKit Go.Lib in
/-- internal/stringslite.Index (what strings.Index calls) AT A substr OF ONE BYTE c: IT RETURNS 'Lib.indexByte s c'; the world is as it was. (LAID: no walk: one application.) -/
theorem Tryd.stringslite_Index_one (s : ByteArray) (c : UInt8) (w : World) :
    Calls Tryd.prog 99 #[.string s, .string ⟨#[c]⟩] w fun e w' => e = .returned (.int .i64 (Lib.indexByte s.data.toList c)) ∧ w' = w := Any.stringslite_Index_one Tryd.lays219 s c w
open Go.RowKit Go.Lib in
/-- internal/stringslite.Index (what strings.Index calls) AT A substr OF WHATEVER LENGTH: IT RETURNS 'Lib.index s substr'; the world is as it was. 'm': what internal/bytealg.MaxLen holds: whatever. (LAID: no walk: one application.) -/
theorem Tryd.stringslite_Index (s sub : ByteArray) (m : Int) (w : World) (hs : s.size < 4294967281) (hm : w.cell? ⟨0, 0, none⟩ = some (.int .i64 m)) :
    Calls Tryd.prog 99 #[.string s, .string sub] w fun e w' => e = .returned (.int .i64 (Lib.index s.data.toList sub.data.toList)) ∧ w' = w := Any.stringslite_Index Tryd.lays219 s sub m w hs hm
def Tryd.lays143_ren : Go.Shelf.Ren := ⟨fun | 143 => 90 | 219 => 99 | 217 => 104 | 225 => 105 | 224 => 106 | 267 => 107 | 266 => 108 | 314 => 109 | n => n, fun | 9 => 9 | 3 => 3 | 4 => 4 | 5 => 5 | 46 => 98 | 146 => 107 | 51 => 106 | n => n, fun | 1 => 0 | n => n⟩
theorem Tryd.lays143 : Go.Proofs.Lays.n143 Tryd.prog Tryd.lays143_ren := {
  mixed := by kernel_rfl
  f143 := Tryd.func90.trans (congrArg some (by kernel_rfl))
  f217 := Tryd.func104.trans (congrArg some (by kernel_rfl))
  f219 := Tryd.func99.trans (congrArg some (by kernel_rfl))
  f224 := Tryd.func106.trans (congrArg some (by kernel_rfl))
  f225 := Tryd.func105.trans (congrArg some (by kernel_rfl))
  f266 := Tryd.func108.trans (congrArg some (by kernel_rfl))
  f267 := Tryd.func107.trans (congrArg some (by kernel_rfl))
  f314 := Tryd.func109.trans (congrArg some (by kernel_rfl))
  t3 := Tryd.underlying3
  a3 := Tryd.isAgg3
  z3 := Tryd.sizeOf3
  v3 := Tryd.zeroValue3
  t4 := Tryd.underlying4
  a4 := Tryd.isAgg4
  z4 := Tryd.sizeOf4
  v4 := Tryd.zeroValue4
  t5 := Tryd.underlying5
  a5 := Tryd.isAgg5
  z5 := Tryd.sizeOf5
  v5 := Tryd.zeroValue5
  t9 := Tryd.underlying9
  a9 := Tryd.isAgg9
  z9 := Tryd.sizeOf9
  v9 := Tryd.zeroValue9
  t46 := Tryd.underlying98
  a46 := Tryd.isAgg98
  z46 := Tryd.sizeOf98
  v46 := Tryd.zeroValue98
  t51 := Tryd.underlying106
  a51 := Tryd.isAgg106
  z51 := Tryd.sizeOf106
  v51 := Tryd.zeroValue106
  t146 := Tryd.underlying107
  a146 := Tryd.isAgg107
  z146 := Tryd.sizeOf107
  v146 := Tryd.zeroValue107
  g1 := by kernel_rfl }
open Go.RowKit Go.Lib in
/-- strings.Index: "Index returns the index of the first instance of substr in s, or -1 if substr is not present in s.": AT A substr OF ONE BYTE c: IT RETURNS 'Lib.indexByte s c'; the world is as it was. (LAID: no walk: one application.) -/
theorem Tryd.strings_Index_one (s : ByteArray) (c : UInt8) (w : World) :
    Calls Tryd.prog 90 #[.string s, .string ⟨#[c]⟩] w fun e w' => e = .returned (.int .i64 (Lib.indexByte s.data.toList c)) ∧ w' = w := Any.strings_Index_one Tryd.lays143 s c w
open Go.RowKit Go.Lib in
/-- strings.Index: "Index returns the index of the first instance of substr in s, or -1 if substr is not present in s.": IT RETURNS 'Lib.index s substr'; the world is as it was. (LAID: no walk: one application.) -/
theorem Tryd.strings_Index (s sub : ByteArray) (m : Int) (w : World) (hs : s.size < 4294967281) (hm : w.cell? ⟨0, 0, none⟩ = some (.int .i64 m)) :
    Calls Tryd.prog 90 #[.string s, .string sub] w fun e w' => e = .returned (.int .i64 (Lib.index s.data.toList sub.data.toList)) ∧ w' = w := Any.strings_Index Tryd.lays143 s sub m w hs hm
def Tryd.lays220_ren : Go.Shelf.Ren := ⟨fun | 220 => 93 | 219 => 99 | 217 => 104 | 225 => 105 | 224 => 106 | 267 => 107 | 266 => 108 | 314 => 109 | n => n, fun | 9 => 9 | 4 => 4 | 3 => 3 | 5 => 5 | 46 => 98 | 146 => 107 | 51 => 106 | n => n, fun | 1 => 0 | n => n⟩
theorem Tryd.lays220 : Go.Proofs.Lays.n220 Tryd.prog Tryd.lays220_ren := {
  mixed := by kernel_rfl
  f217 := Tryd.func104.trans (congrArg some (by kernel_rfl))
  f219 := Tryd.func99.trans (congrArg some (by kernel_rfl))
  f220 := Tryd.func93.trans (congrArg some (by kernel_rfl))
  f224 := Tryd.func106.trans (congrArg some (by kernel_rfl))
  f225 := Tryd.func105.trans (congrArg some (by kernel_rfl))
  f266 := Tryd.func108.trans (congrArg some (by kernel_rfl))
  f267 := Tryd.func107.trans (congrArg some (by kernel_rfl))
  f314 := Tryd.func109.trans (congrArg some (by kernel_rfl))
  t3 := Tryd.underlying3
  a3 := Tryd.isAgg3
  z3 := Tryd.sizeOf3
  v3 := Tryd.zeroValue3
  t4 := Tryd.underlying4
  a4 := Tryd.isAgg4
  z4 := Tryd.sizeOf4
  v4 := Tryd.zeroValue4
  t5 := Tryd.underlying5
  a5 := Tryd.isAgg5
  z5 := Tryd.sizeOf5
  v5 := Tryd.zeroValue5
  t9 := Tryd.underlying9
  a9 := Tryd.isAgg9
  z9 := Tryd.sizeOf9
  v9 := Tryd.zeroValue9
  t46 := Tryd.underlying98
  a46 := Tryd.isAgg98
  z46 := Tryd.sizeOf98
  v46 := Tryd.zeroValue98
  t51 := Tryd.underlying106
  a51 := Tryd.isAgg106
  z51 := Tryd.sizeOf106
  v51 := Tryd.zeroValue106
  t146 := Tryd.underlying107
  a146 := Tryd.isAgg107
  z146 := Tryd.sizeOf107
  v146 := Tryd.zeroValue107
  g1 := by kernel_rfl }
open Go.RowKit Go.Lib in
/-- internal/stringslite.Cut (what strings.Cut calls): IT RETURNS 'Lib.cut s sep'; the world is as it was but for the count of draws. (LAID: no walk: one application.) -/
theorem Tryd.stringslite_Cut (s sep : ByteArray) (m : Int) (w : World) (hs : s.size < 4294967281) (hm : w.cell? ⟨0, 0, none⟩ = some (.int .i64 m)) :
    Calls Tryd.prog 93 #[.string s, .string sep] w fun e w' => e = .returned (.tuple #[.string ⟨(Lib.cut s.data.toList sep.data.toList).1.toArray⟩, .string ⟨(Lib.cut s.data.toList sep.data.toList).2.1.toArray⟩, .bool (Lib.cut s.data.toList sep.data.toList).2.2]) ∧ ∃ n, w' = w.drewN n := Any.stringslite_Cut Tryd.lays220 s sep m w hs hm
def Tryd.lays145_ren : Go.Shelf.Ren := ⟨fun | 145 => 84 | 220 => 93 | 219 => 99 | 217 => 104 | 225 => 105 | 224 => 106 | 267 => 107 | 266 => 108 | 314 => 109 | n => n, fun | 9 => 9 | 4 => 4 | 59 => 92 | 3 => 3 | 5 => 5 | 46 => 98 | 146 => 107 | 51 => 106 | n => n, fun | 1 => 0 | n => n⟩
theorem Tryd.lays145 : Go.Proofs.Lays.n145 Tryd.prog Tryd.lays145_ren := {
  mixed := by kernel_rfl
  f145 := Tryd.func84.trans (congrArg some (by kernel_rfl))
  f217 := Tryd.func104.trans (congrArg some (by kernel_rfl))
  f219 := Tryd.func99.trans (congrArg some (by kernel_rfl))
  f220 := Tryd.func93.trans (congrArg some (by kernel_rfl))
  f224 := Tryd.func106.trans (congrArg some (by kernel_rfl))
  f225 := Tryd.func105.trans (congrArg some (by kernel_rfl))
  f266 := Tryd.func108.trans (congrArg some (by kernel_rfl))
  f267 := Tryd.func107.trans (congrArg some (by kernel_rfl))
  f314 := Tryd.func109.trans (congrArg some (by kernel_rfl))
  t3 := Tryd.underlying3
  a3 := Tryd.isAgg3
  z3 := Tryd.sizeOf3
  v3 := Tryd.zeroValue3
  t4 := Tryd.underlying4
  a4 := Tryd.isAgg4
  z4 := Tryd.sizeOf4
  v4 := Tryd.zeroValue4
  t5 := Tryd.underlying5
  a5 := Tryd.isAgg5
  z5 := Tryd.sizeOf5
  v5 := Tryd.zeroValue5
  t9 := Tryd.underlying9
  a9 := Tryd.isAgg9
  z9 := Tryd.sizeOf9
  v9 := Tryd.zeroValue9
  t46 := Tryd.underlying98
  a46 := Tryd.isAgg98
  z46 := Tryd.sizeOf98
  v46 := Tryd.zeroValue98
  t51 := Tryd.underlying106
  a51 := Tryd.isAgg106
  z51 := Tryd.sizeOf106
  v51 := Tryd.zeroValue106
  t59 := Tryd.underlying92
  a59 := Tryd.isAgg92
  z59 := Tryd.sizeOf92
  v59 := Tryd.zeroValue92
  t146 := Tryd.underlying107
  a146 := Tryd.isAgg107
  z146 := Tryd.sizeOf107
  v146 := Tryd.zeroValue107
  g1 := by kernel_rfl }
open Go.RowKit Go.Lib in
/-- strings.Cut: "Cut slices s around the first instance of sep, returning the text before and after sep. The found result reports whether sep appears in s. If sep does not appear in s, cut returns s, "", false.": IT RETURNS 'Lib.cut s sep'; the world is as it was but for the count of draws. (LAID: no walk: one application.) -/
theorem Tryd.strings_Cut (s sep : ByteArray) (m : Int) (w : World) (hs : s.size < 4294967281) (hm : w.cell? ⟨0, 0, none⟩ = some (.int .i64 m)) :
    Calls Tryd.prog 84 #[.string s, .string sep] w fun e w' => e = .returned (.tuple #[.string ⟨(Lib.cut s.data.toList sep.data.toList).1.toArray⟩, .string ⟨(Lib.cut s.data.toList sep.data.toList).2.1.toArray⟩, .bool (Lib.cut s.data.toList sep.data.toList).2.2]) ∧ ∃ n, w' = w.drewN n := Any.strings_Cut Tryd.lays145 s sep m w hs hm
def Tryd.lays138_ren : Go.Shelf.Ren := ⟨fun | 138 => 89 | 195 => 96 | 218 => 98 | 143 => 90 | 219 => 99 | 217 => 104 | 225 => 105 | 224 => 106 | 267 => 107 | 266 => 108 | 314 => 109 | n => n, fun | 9 => 9 | 3 => 3 | 4 => 4 | 5 => 5 | 0 => 0 | 46 => 98 | 146 => 107 | 51 => 106 | n => n, fun | 1 => 0 | n => n⟩
theorem Tryd.lays138 : Go.Proofs.Lays.n138 Tryd.prog Tryd.lays138_ren := {
  mixed := by kernel_rfl
  f138 := Tryd.func89.trans (congrArg some (by kernel_rfl))
  f143 := Tryd.func90.trans (congrArg some (by kernel_rfl))
  f195 := Tryd.func96.trans (congrArg some (by kernel_rfl))
  f217 := Tryd.func104.trans (congrArg some (by kernel_rfl))
  f218 := Tryd.func98.trans (congrArg some (by kernel_rfl))
  f219 := Tryd.func99.trans (congrArg some (by kernel_rfl))
  f224 := Tryd.func106.trans (congrArg some (by kernel_rfl))
  f225 := Tryd.func105.trans (congrArg some (by kernel_rfl))
  f266 := Tryd.func108.trans (congrArg some (by kernel_rfl))
  f267 := Tryd.func107.trans (congrArg some (by kernel_rfl))
  f314 := Tryd.func109.trans (congrArg some (by kernel_rfl))
  t0 := Tryd.underlying0
  a0 := Tryd.isAgg0
  z0 := Tryd.sizeOf0
  v0 := Tryd.zeroValue0
  t3 := Tryd.underlying3
  a3 := Tryd.isAgg3
  z3 := Tryd.sizeOf3
  v3 := Tryd.zeroValue3
  t4 := Tryd.underlying4
  a4 := Tryd.isAgg4
  z4 := Tryd.sizeOf4
  v4 := Tryd.zeroValue4
  t5 := Tryd.underlying5
  a5 := Tryd.isAgg5
  z5 := Tryd.sizeOf5
  v5 := Tryd.zeroValue5
  t9 := Tryd.underlying9
  a9 := Tryd.isAgg9
  z9 := Tryd.sizeOf9
  v9 := Tryd.zeroValue9
  t46 := Tryd.underlying98
  a46 := Tryd.isAgg98
  z46 := Tryd.sizeOf98
  v46 := Tryd.zeroValue98
  t51 := Tryd.underlying106
  a51 := Tryd.isAgg106
  z51 := Tryd.sizeOf106
  v51 := Tryd.zeroValue106
  t146 := Tryd.underlying107
  a146 := Tryd.isAgg107
  z146 := Tryd.sizeOf107
  v146 := Tryd.zeroValue107
  g1 := by kernel_rfl }
open Go.RowKit Go.Lib in
/-- strings.Count AT A substr OF ONE BYTE ('hp'): "Count counts the number of non-overlapping instances of substr in s.": IT RETURNS 'Lib.countByte s (that byte)'; the world is as it was. ✋ NO CONTRACT HERE YET at an empty substr (utf8.RuneCountInString) or at a longer one (a loop over strings.Index). (LAID: no walk: one application.) -/
theorem Tryd.strings_Count_one (s : ByteArray) (c : UInt8) (w : World) :
    Calls Tryd.prog 89 #[.string s, .string ⟨#[c]⟩] w fun e w' => e = .returned (.int .i64 (Lib.countByte s.data.toList c)) ∧ w' = w := Any.strings_Count_one Tryd.lays138 s c w
open Go.RowKit Go.Lib in
/-- strings.Count AT A substr OF TWO BYTES OR MORE: "Count counts the number of non-overlapping instances of substr in s.": IT RETURNS 'Lib.count s substr'; the world is as it was. (LAID: no walk: one application.) -/
theorem Tryd.strings_Count (s sub : ByteArray) (m : Int) (w : World) (hs : s.size < 4294967281) (hm : w.cell? ⟨0, 0, none⟩ = some (.int .i64 m)) (h2 : 2 ≤ sub.size) :
    Calls Tryd.prog 89 #[.string s, .string sub] w fun e w' => e = .returned (.int .i64 (Lib.countB s sub)) ∧ w' = w := Any.strings_Count Tryd.lays138 s sub m w hs hm h2
def Tryd.laysM219_ren : Go.Shelf.Ren := ⟨fun | 219 => 99 | 217 => 104 | 225 => 105 | 224 => 106 | 267 => 107 | 266 => 108 | 314 => 109 | n => n, fun | 9 => 9 | 3 => 3 | 4 => 4 | 5 => 5 | 46 => 98 | 146 => 107 | 51 => 106 | n => n, fun | 1 => 0 | n => n⟩
theorem Tryd.laysM219 : Go.Proofs.LaysM.n219 Tryd.prog Tryd.laysM219_ren := {
  mixed := by kernel_rfl
  f217 := Tryd.func104.trans (congrArg some (by kernel_rfl))
  f219 := Tryd.func99.trans (congrArg some (by kernel_rfl))
  f224 := Tryd.func106.trans (congrArg some (by kernel_rfl))
  f225 := Tryd.func105.trans (congrArg some (by kernel_rfl))
  f266 := Tryd.func108.trans (congrArg some (by kernel_rfl))
  f267 := Tryd.func107.trans (congrArg some (by kernel_rfl))
  f314 := Tryd.func109.trans (congrArg some (by kernel_rfl))
  t3 := Tryd.underlying3
  a3 := Tryd.isAgg3
  z3 := Tryd.sizeOf3
  v3 := Tryd.zeroValue3
  t4 := Tryd.underlying4
  a4 := Tryd.isAgg4
  z4 := Tryd.sizeOf4
  v4 := Tryd.zeroValue4
  t5 := Tryd.underlying5
  a5 := Tryd.isAgg5
  z5 := Tryd.sizeOf5
  v5 := Tryd.zeroValue5
  t9 := Tryd.underlying9
  a9 := Tryd.isAgg9
  z9 := Tryd.sizeOf9
  v9 := Tryd.zeroValue9
  t46 := Tryd.underlying98
  a46 := Tryd.isAgg98
  z46 := Tryd.sizeOf98
  v46 := Tryd.zeroValue98
  t51 := Tryd.underlying106
  a51 := Tryd.isAgg106
  z51 := Tryd.sizeOf106
  v51 := Tryd.zeroValue106
  t146 := Tryd.underlying107
  a146 := Tryd.isAgg107
  z146 := Tryd.sizeOf107
  v146 := Tryd.zeroValue107
  g1 := by kernel_rfl
  i3 := by kernel_rfl
  i4 := by kernel_rfl
  i5 := by kernel_rfl
  i9 := by kernel_rfl
  i46 := by kernel_rfl
  i51 := by kernel_rfl
  i146 := by kernel_rfl
  m1 := by kernel_rfl
  s1_3 := fun w h => Go.Proofs.cell_of_shapedOpen_int (zero := #[.int .i64 0]) (t := 3) h (of_decide_eq_true (by kernel_rfl)) (by kernel_rfl) rfl (by kernel_rfl) (by kernel_rfl) Tryd.underlying3 }
open Go.RowKit Go.Lib in
theorem Tryd.stringslite_Index_shaped (s sub : ByteArray) (w : World) (h : w.ShapedOpen Tryd.prog) (hs : s.size < 4294967281) :
    Calls Tryd.prog 99 #[.string s, .string sub] w fun e w' => e = .returned (.int .i64 (Lib.index s.data.toList sub.data.toList)) ∧ w' = w := Any.stringslite_Index_shaped Tryd.laysM219 s sub w h hs
def Tryd.laysM143_ren : Go.Shelf.Ren := ⟨fun | 143 => 90 | 219 => 99 | 217 => 104 | 225 => 105 | 224 => 106 | 267 => 107 | 266 => 108 | 314 => 109 | n => n, fun | 9 => 9 | 3 => 3 | 4 => 4 | 5 => 5 | 46 => 98 | 146 => 107 | 51 => 106 | n => n, fun | 1 => 0 | n => n⟩
theorem Tryd.laysM143 : Go.Proofs.LaysM.n143 Tryd.prog Tryd.laysM143_ren := {
  mixed := by kernel_rfl
  f143 := Tryd.func90.trans (congrArg some (by kernel_rfl))
  f217 := Tryd.func104.trans (congrArg some (by kernel_rfl))
  f219 := Tryd.func99.trans (congrArg some (by kernel_rfl))
  f224 := Tryd.func106.trans (congrArg some (by kernel_rfl))
  f225 := Tryd.func105.trans (congrArg some (by kernel_rfl))
  f266 := Tryd.func108.trans (congrArg some (by kernel_rfl))
  f267 := Tryd.func107.trans (congrArg some (by kernel_rfl))
  f314 := Tryd.func109.trans (congrArg some (by kernel_rfl))
  t3 := Tryd.underlying3
  a3 := Tryd.isAgg3
  z3 := Tryd.sizeOf3
  v3 := Tryd.zeroValue3
  t4 := Tryd.underlying4
  a4 := Tryd.isAgg4
  z4 := Tryd.sizeOf4
  v4 := Tryd.zeroValue4
  t5 := Tryd.underlying5
  a5 := Tryd.isAgg5
  z5 := Tryd.sizeOf5
  v5 := Tryd.zeroValue5
  t9 := Tryd.underlying9
  a9 := Tryd.isAgg9
  z9 := Tryd.sizeOf9
  v9 := Tryd.zeroValue9
  t46 := Tryd.underlying98
  a46 := Tryd.isAgg98
  z46 := Tryd.sizeOf98
  v46 := Tryd.zeroValue98
  t51 := Tryd.underlying106
  a51 := Tryd.isAgg106
  z51 := Tryd.sizeOf106
  v51 := Tryd.zeroValue106
  t146 := Tryd.underlying107
  a146 := Tryd.isAgg107
  z146 := Tryd.sizeOf107
  v146 := Tryd.zeroValue107
  g1 := by kernel_rfl
  i3 := by kernel_rfl
  i4 := by kernel_rfl
  i5 := by kernel_rfl
  i9 := by kernel_rfl
  i46 := by kernel_rfl
  i51 := by kernel_rfl
  i146 := by kernel_rfl
  m1 := by kernel_rfl
  s1_3 := fun w h => Go.Proofs.cell_of_shapedOpen_int (zero := #[.int .i64 0]) (t := 3) h (of_decide_eq_true (by kernel_rfl)) (by kernel_rfl) rfl (by kernel_rfl) (by kernel_rfl) Tryd.underlying3 }
open Go.RowKit Go.Lib in
theorem Tryd.strings_Index_shaped (s sub : ByteArray) (w : World) (h : w.ShapedOpen Tryd.prog) (hs : s.size < 4294967281) :
    Calls Tryd.prog 90 #[.string s, .string sub] w fun e w' => e = .returned (.int .i64 (Lib.index s.data.toList sub.data.toList)) ∧ w' = w := Any.strings_Index_shaped Tryd.laysM143 s sub w h hs
def Tryd.laysM220_ren : Go.Shelf.Ren := ⟨fun | 220 => 93 | 219 => 99 | 217 => 104 | 225 => 105 | 224 => 106 | 267 => 107 | 266 => 108 | 314 => 109 | n => n, fun | 9 => 9 | 4 => 4 | 3 => 3 | 5 => 5 | 46 => 98 | 146 => 107 | 51 => 106 | n => n, fun | 1 => 0 | n => n⟩
theorem Tryd.laysM220 : Go.Proofs.LaysM.n220 Tryd.prog Tryd.laysM220_ren := {
  mixed := by kernel_rfl
  f217 := Tryd.func104.trans (congrArg some (by kernel_rfl))
  f219 := Tryd.func99.trans (congrArg some (by kernel_rfl))
  f220 := Tryd.func93.trans (congrArg some (by kernel_rfl))
  f224 := Tryd.func106.trans (congrArg some (by kernel_rfl))
  f225 := Tryd.func105.trans (congrArg some (by kernel_rfl))
  f266 := Tryd.func108.trans (congrArg some (by kernel_rfl))
  f267 := Tryd.func107.trans (congrArg some (by kernel_rfl))
  f314 := Tryd.func109.trans (congrArg some (by kernel_rfl))
  t3 := Tryd.underlying3
  a3 := Tryd.isAgg3
  z3 := Tryd.sizeOf3
  v3 := Tryd.zeroValue3
  t4 := Tryd.underlying4
  a4 := Tryd.isAgg4
  z4 := Tryd.sizeOf4
  v4 := Tryd.zeroValue4
  t5 := Tryd.underlying5
  a5 := Tryd.isAgg5
  z5 := Tryd.sizeOf5
  v5 := Tryd.zeroValue5
  t9 := Tryd.underlying9
  a9 := Tryd.isAgg9
  z9 := Tryd.sizeOf9
  v9 := Tryd.zeroValue9
  t46 := Tryd.underlying98
  a46 := Tryd.isAgg98
  z46 := Tryd.sizeOf98
  v46 := Tryd.zeroValue98
  t51 := Tryd.underlying106
  a51 := Tryd.isAgg106
  z51 := Tryd.sizeOf106
  v51 := Tryd.zeroValue106
  t146 := Tryd.underlying107
  a146 := Tryd.isAgg107
  z146 := Tryd.sizeOf107
  v146 := Tryd.zeroValue107
  g1 := by kernel_rfl
  i3 := by kernel_rfl
  i4 := by kernel_rfl
  i5 := by kernel_rfl
  i9 := by kernel_rfl
  i46 := by kernel_rfl
  i51 := by kernel_rfl
  i146 := by kernel_rfl
  m1 := by kernel_rfl
  s1_3 := fun w h => Go.Proofs.cell_of_shapedOpen_int (zero := #[.int .i64 0]) (t := 3) h (of_decide_eq_true (by kernel_rfl)) (by kernel_rfl) rfl (by kernel_rfl) (by kernel_rfl) Tryd.underlying3 }
open Go.RowKit Go.Lib in
theorem Tryd.stringslite_Cut_shaped (s sep : ByteArray) (w : World) (h : w.ShapedOpen Tryd.prog) (hs : s.size < 4294967281) :
    Calls Tryd.prog 93 #[.string s, .string sep] w fun e w' => e = .returned (.tuple #[.string ⟨(Lib.cut s.data.toList sep.data.toList).1.toArray⟩, .string ⟨(Lib.cut s.data.toList sep.data.toList).2.1.toArray⟩, .bool (Lib.cut s.data.toList sep.data.toList).2.2]) ∧ ∃ n, w' = w.drewN n := Any.stringslite_Cut_shaped Tryd.laysM220 s sep w h hs
def Tryd.laysM145_ren : Go.Shelf.Ren := ⟨fun | 145 => 84 | 220 => 93 | 219 => 99 | 217 => 104 | 225 => 105 | 224 => 106 | 267 => 107 | 266 => 108 | 314 => 109 | n => n, fun | 9 => 9 | 4 => 4 | 59 => 92 | 3 => 3 | 5 => 5 | 46 => 98 | 146 => 107 | 51 => 106 | n => n, fun | 1 => 0 | n => n⟩
theorem Tryd.laysM145 : Go.Proofs.LaysM.n145 Tryd.prog Tryd.laysM145_ren := {
  mixed := by kernel_rfl
  f145 := Tryd.func84.trans (congrArg some (by kernel_rfl))
  f217 := Tryd.func104.trans (congrArg some (by kernel_rfl))
  f219 := Tryd.func99.trans (congrArg some (by kernel_rfl))
  f220 := Tryd.func93.trans (congrArg some (by kernel_rfl))
  f224 := Tryd.func106.trans (congrArg some (by kernel_rfl))
  f225 := Tryd.func105.trans (congrArg some (by kernel_rfl))
  f266 := Tryd.func108.trans (congrArg some (by kernel_rfl))
  f267 := Tryd.func107.trans (congrArg some (by kernel_rfl))
  f314 := Tryd.func109.trans (congrArg some (by kernel_rfl))
  t3 := Tryd.underlying3
  a3 := Tryd.isAgg3
  z3 := Tryd.sizeOf3
  v3 := Tryd.zeroValue3
  t4 := Tryd.underlying4
  a4 := Tryd.isAgg4
  z4 := Tryd.sizeOf4
  v4 := Tryd.zeroValue4
  t5 := Tryd.underlying5
  a5 := Tryd.isAgg5
  z5 := Tryd.sizeOf5
  v5 := Tryd.zeroValue5
  t9 := Tryd.underlying9
  a9 := Tryd.isAgg9
  z9 := Tryd.sizeOf9
  v9 := Tryd.zeroValue9
  t46 := Tryd.underlying98
  a46 := Tryd.isAgg98
  z46 := Tryd.sizeOf98
  v46 := Tryd.zeroValue98
  t51 := Tryd.underlying106
  a51 := Tryd.isAgg106
  z51 := Tryd.sizeOf106
  v51 := Tryd.zeroValue106
  t59 := Tryd.underlying92
  a59 := Tryd.isAgg92
  z59 := Tryd.sizeOf92
  v59 := Tryd.zeroValue92
  t146 := Tryd.underlying107
  a146 := Tryd.isAgg107
  z146 := Tryd.sizeOf107
  v146 := Tryd.zeroValue107
  g1 := by kernel_rfl
  i3 := by kernel_rfl
  i4 := by kernel_rfl
  i5 := by kernel_rfl
  i9 := by kernel_rfl
  i46 := by kernel_rfl
  i51 := by kernel_rfl
  i59 := by kernel_rfl
  i146 := by kernel_rfl
  m1 := by kernel_rfl
  s1_3 := fun w h => Go.Proofs.cell_of_shapedOpen_int (zero := #[.int .i64 0]) (t := 3) h (of_decide_eq_true (by kernel_rfl)) (by kernel_rfl) rfl (by kernel_rfl) (by kernel_rfl) Tryd.underlying3 }
open Go.RowKit Go.Lib in
theorem Tryd.strings_Cut_shaped (s sep : ByteArray) (w : World) (h : w.ShapedOpen Tryd.prog) (hs : s.size < 4294967281) :
    Calls Tryd.prog 84 #[.string s, .string sep] w fun e w' => e = .returned (.tuple #[.string ⟨(Lib.cut s.data.toList sep.data.toList).1.toArray⟩, .string ⟨(Lib.cut s.data.toList sep.data.toList).2.1.toArray⟩, .bool (Lib.cut s.data.toList sep.data.toList).2.2]) ∧ ∃ n, w' = w.drewN n := Any.strings_Cut_shaped Tryd.laysM145 s sep w h hs
def Tryd.laysM138_ren : Go.Shelf.Ren := ⟨fun | 138 => 89 | 195 => 96 | 218 => 98 | 143 => 90 | 219 => 99 | 217 => 104 | 225 => 105 | 224 => 106 | 267 => 107 | 266 => 108 | 314 => 109 | n => n, fun | 9 => 9 | 3 => 3 | 4 => 4 | 5 => 5 | 0 => 0 | 46 => 98 | 146 => 107 | 51 => 106 | n => n, fun | 1 => 0 | n => n⟩
theorem Tryd.laysM138 : Go.Proofs.LaysM.n138 Tryd.prog Tryd.laysM138_ren := {
  mixed := by kernel_rfl
  f138 := Tryd.func89.trans (congrArg some (by kernel_rfl))
  f143 := Tryd.func90.trans (congrArg some (by kernel_rfl))
  f195 := Tryd.func96.trans (congrArg some (by kernel_rfl))
  f217 := Tryd.func104.trans (congrArg some (by kernel_rfl))
  f218 := Tryd.func98.trans (congrArg some (by kernel_rfl))
  f219 := Tryd.func99.trans (congrArg some (by kernel_rfl))
  f224 := Tryd.func106.trans (congrArg some (by kernel_rfl))
  f225 := Tryd.func105.trans (congrArg some (by kernel_rfl))
  f266 := Tryd.func108.trans (congrArg some (by kernel_rfl))
  f267 := Tryd.func107.trans (congrArg some (by kernel_rfl))
  f314 := Tryd.func109.trans (congrArg some (by kernel_rfl))
  t0 := Tryd.underlying0
  a0 := Tryd.isAgg0
  z0 := Tryd.sizeOf0
  v0 := Tryd.zeroValue0
  t3 := Tryd.underlying3
  a3 := Tryd.isAgg3
  z3 := Tryd.sizeOf3
  v3 := Tryd.zeroValue3
  t4 := Tryd.underlying4
  a4 := Tryd.isAgg4
  z4 := Tryd.sizeOf4
  v4 := Tryd.zeroValue4
  t5 := Tryd.underlying5
  a5 := Tryd.isAgg5
  z5 := Tryd.sizeOf5
  v5 := Tryd.zeroValue5
  t9 := Tryd.underlying9
  a9 := Tryd.isAgg9
  z9 := Tryd.sizeOf9
  v9 := Tryd.zeroValue9
  t46 := Tryd.underlying98
  a46 := Tryd.isAgg98
  z46 := Tryd.sizeOf98
  v46 := Tryd.zeroValue98
  t51 := Tryd.underlying106
  a51 := Tryd.isAgg106
  z51 := Tryd.sizeOf106
  v51 := Tryd.zeroValue106
  t146 := Tryd.underlying107
  a146 := Tryd.isAgg107
  z146 := Tryd.sizeOf107
  v146 := Tryd.zeroValue107
  g1 := by kernel_rfl
  i0 := by kernel_rfl
  i3 := by kernel_rfl
  i4 := by kernel_rfl
  i5 := by kernel_rfl
  i9 := by kernel_rfl
  i46 := by kernel_rfl
  i51 := by kernel_rfl
  i146 := by kernel_rfl
  m1 := by kernel_rfl
  s1_3 := fun w h => Go.Proofs.cell_of_shapedOpen_int (zero := #[.int .i64 0]) (t := 3) h (of_decide_eq_true (by kernel_rfl)) (by kernel_rfl) rfl (by kernel_rfl) (by kernel_rfl) Tryd.underlying3 }
open Go.RowKit Go.Lib in
theorem Tryd.strings_Count_shaped (s sub : ByteArray) (w : World) (h : w.ShapedOpen Tryd.prog) (hs : s.size < 4294967281) (h2 : 2 ≤ sub.size) :
    Calls Tryd.prog 89 #[.string s, .string sub] w fun e w' => e = .returned (.int .i64 (Lib.countB s sub)) ∧ w' = w := Any.strings_Count_shaped Tryd.laysM138 s sub w h hs h2
def Tryd.lays222_ren : Go.Shelf.Ren := ⟨fun | 222 => 79 | n => n, fun | 9 => 9 | 5 => 5 | 3 => 3 | 4 => 4 | n => n, fun | n => n⟩
theorem Tryd.lays222 : Go.Proofs.Lays.n222 Tryd.prog Tryd.lays222_ren := {
  mixed := by kernel_rfl
  f222 := Tryd.func79.trans (congrArg some (by kernel_rfl))
  t3 := Tryd.underlying3
  a3 := Tryd.isAgg3
  z3 := Tryd.sizeOf3
  v3 := Tryd.zeroValue3
  t4 := Tryd.underlying4
  a4 := Tryd.isAgg4
  z4 := Tryd.sizeOf4
  v4 := Tryd.zeroValue4
  t5 := Tryd.underlying5
  a5 := Tryd.isAgg5
  z5 := Tryd.sizeOf5
  v5 := Tryd.zeroValue5
  t9 := Tryd.underlying9
  a9 := Tryd.isAgg9
  z9 := Tryd.sizeOf9
  v9 := Tryd.zeroValue9 }
open Go.RowKit Go.Lib in
/-- internal/bytealg.LastIndexByteString: 'for i := len(s) - 1; i >= 0; i-- { if s[i] == c { return i } }; return -1'. (LAID: no walk: one application.) -/
theorem Tryd.bytealg_LastIndexByteString_nm (s : ByteArray) (c : Int) (hs : s.size < 4611686018427387904) (w : World) :
    Calls Tryd.prog 79 #[.string s, .int .u8 c] w fun e w' => e = .returned (.int .i64 (Lib.lastIndexByte s c)) ∧ w' = w := Any.bytealg_LastIndexByteString_nm Tryd.lays222 s c hs w
def Tryd.lays149_ren : Go.Shelf.Ren := ⟨fun | 149 => 59 | 222 => 79 | n => n, fun | 9 => 9 | 5 => 5 | 3 => 3 | 4 => 4 | n => n, fun | n => n⟩
theorem Tryd.lays149 : Go.Proofs.Lays.n149 Tryd.prog Tryd.lays149_ren := {
  mixed := by kernel_rfl
  f149 := Tryd.func59.trans (congrArg some (by kernel_rfl))
  f222 := Tryd.func79.trans (congrArg some (by kernel_rfl))
  t3 := Tryd.underlying3
  a3 := Tryd.isAgg3
  z3 := Tryd.sizeOf3
  v3 := Tryd.zeroValue3
  t4 := Tryd.underlying4
  a4 := Tryd.isAgg4
  z4 := Tryd.sizeOf4
  v4 := Tryd.zeroValue4
  t5 := Tryd.underlying5
  a5 := Tryd.isAgg5
  z5 := Tryd.sizeOf5
  v5 := Tryd.zeroValue5
  t9 := Tryd.underlying9
  a9 := Tryd.isAgg9
  z9 := Tryd.sizeOf9
  v9 := Tryd.zeroValue9 }
open Go.RowKit Go.Lib in
/-- strings.LastIndexByte: "LastIndexByte returns the index of the last instance of c in s, or -1 if c is not present in s." (LAID: no walk: one application.) -/
theorem Tryd.strings_LastIndexByte (s : ByteArray) (c : Int) (hs : s.size < 4611686018427387904) (w : World) :
    Calls Tryd.prog 59 #[.string s, .int .u8 c] w fun e w' => e = .returned (.int .i64 (Lib.lastIndexByte s c)) ∧ w' = w := Any.strings_LastIndexByte Tryd.lays149 s c hs w
def Tryd.lays206_ren : Go.Shelf.Ren := ⟨fun | 206 => 85 | n => n, fun | 9 => 9 | 4 => 4 | 3 => 3 | n => n, fun | n => n⟩
theorem Tryd.lays206 : Go.Proofs.Lays.n206 Tryd.prog Tryd.lays206_ren := {
  mixed := by kernel_rfl
  f206 := Tryd.func85.trans (congrArg some (by kernel_rfl))
  t3 := Tryd.underlying3
  a3 := Tryd.isAgg3
  z3 := Tryd.sizeOf3
  v3 := Tryd.zeroValue3
  t4 := Tryd.underlying4
  a4 := Tryd.isAgg4
  z4 := Tryd.sizeOf4
  v4 := Tryd.zeroValue4
  t9 := Tryd.underlying9
  a9 := Tryd.isAgg9
  z9 := Tryd.sizeOf9
  v9 := Tryd.zeroValue9 }
open Go.RowKit Go.Lib in
/-- internal/stringslite.HasPrefix (what strings.HasPrefix calls). (LAID: no walk: one application.) -/
theorem Tryd.stringslite_HasPrefix (s p : ByteArray) (w : World) :
    Calls Tryd.prog 85 #[.string s, .string p] w fun e w' => e = .returned (.bool (Lib.hasPrefix s.data.toList p.data.toList)) ∧ w' = w := Any.stringslite_HasPrefix Tryd.lays206 s p w
def Tryd.lays99_ren : Go.Shelf.Ren := ⟨fun | 99 => 67 | 206 => 85 | n => n, fun | 9 => 9 | 4 => 4 | 3 => 3 | n => n, fun | n => n⟩
theorem Tryd.lays99 : Go.Proofs.Lays.n99 Tryd.prog Tryd.lays99_ren := {
  mixed := by kernel_rfl
  f99 := Tryd.func67.trans (congrArg some (by kernel_rfl))
  f206 := Tryd.func85.trans (congrArg some (by kernel_rfl))
  t3 := Tryd.underlying3
  a3 := Tryd.isAgg3
  z3 := Tryd.sizeOf3
  v3 := Tryd.zeroValue3
  t4 := Tryd.underlying4
  a4 := Tryd.isAgg4
  z4 := Tryd.sizeOf4
  v4 := Tryd.zeroValue4
  t9 := Tryd.underlying9
  a9 := Tryd.isAgg9
  z9 := Tryd.sizeOf9
  v9 := Tryd.zeroValue9 }
open Go.RowKit Go.Lib in
/-- strings.HasPrefix: "HasPrefix reports whether the string s begins with prefix.": IT RETURNS 'Lib.hasPrefix s prefix'; the world is as it was. (LAID: no walk: one application.) -/
theorem Tryd.strings_HasPrefix (s p : ByteArray) (w : World) :
    Calls Tryd.prog 67 #[.string s, .string p] w fun e w' => e = .returned (.bool (Lib.hasPrefix s.data.toList p.data.toList)) ∧ w' = w := Any.strings_HasPrefix Tryd.lays99 s p w
open Go.RowKit Go.Lib in
/-- strings.Count at whatever sep that is not empty: the two roads under one statement. (LAID: no walk: one application.) -/
theorem Tryd.strings_Count_any (s sep : ByteArray) (m : Int) (w : World) (hs : s.size < 4294967281) (hm : w.cell? ⟨0, 0, none⟩ = some (.int .i64 m)) (h1 : 1 ≤ sep.size) :
    Calls Tryd.prog 89 #[.string s, .string sep] w fun e w' => e = .returned (.int .i64 (Lib.countB s sep)) ∧ w' = w := Any.strings_Count_any Tryd.lays138 s sep m w hs hm h1
def Tryd.lays221_ren : Go.Shelf.Ren := ⟨fun | 221 => 80 | 268 => 88 | 138 => 89 | 143 => 90 | 195 => 96 | 197 => 97 | 218 => 98 | 219 => 99 | 260 => 103 | 217 => 104 | 225 => 105 | 224 => 106 | 267 => 107 | 266 => 108 | 314 => 109 | n => n, fun | 9 => 9 | 3 => 3 | 31 => 25 | 4 => 4 | 0 => 0 | 105 => 103 | 21 => 21 | 5 => 5 | 46 => 98 | 119 => 113 | 139 => 116 | 138 => 115 | 146 => 107 | 51 => 106 | n => n, fun | 1 => 0 | 3 => 1 | 4 => 2 | n => n⟩
theorem Tryd.lays221 : Go.Proofs.Lays.n221 Tryd.prog Tryd.lays221_ren := {
  mixed := by kernel_rfl
  f138 := Tryd.func89.trans (congrArg some (by kernel_rfl))
  f143 := Tryd.func90.trans (congrArg some (by kernel_rfl))
  f195 := Tryd.func96.trans (congrArg some (by kernel_rfl))
  f197 := Tryd.func97.trans (congrArg some (by kernel_rfl))
  f217 := Tryd.func104.trans (congrArg some (by kernel_rfl))
  f218 := Tryd.func98.trans (congrArg some (by kernel_rfl))
  f219 := Tryd.func99.trans (congrArg some (by kernel_rfl))
  f221 := Tryd.func80.trans (congrArg some (by kernel_rfl))
  f224 := Tryd.func106.trans (congrArg some (by kernel_rfl))
  f225 := Tryd.func105.trans (congrArg some (by kernel_rfl))
  f260 := Tryd.func103.trans (congrArg some (by kernel_rfl))
  f266 := Tryd.func108.trans (congrArg some (by kernel_rfl))
  f267 := Tryd.func107.trans (congrArg some (by kernel_rfl))
  f268 := Tryd.func88.trans (congrArg some (by kernel_rfl))
  f314 := Tryd.func109.trans (congrArg some (by kernel_rfl))
  t0 := Tryd.underlying0
  a0 := Tryd.isAgg0
  z0 := Tryd.sizeOf0
  v0 := Tryd.zeroValue0
  t3 := Tryd.underlying3
  a3 := Tryd.isAgg3
  z3 := Tryd.sizeOf3
  v3 := Tryd.zeroValue3
  t4 := Tryd.underlying4
  a4 := Tryd.isAgg4
  z4 := Tryd.sizeOf4
  v4 := Tryd.zeroValue4
  t5 := Tryd.underlying5
  a5 := Tryd.isAgg5
  z5 := Tryd.sizeOf5
  v5 := Tryd.zeroValue5
  t9 := Tryd.underlying9
  a9 := Tryd.isAgg9
  z9 := Tryd.sizeOf9
  v9 := Tryd.zeroValue9
  t21 := Tryd.underlying21
  a21 := Tryd.isAgg21
  z21 := Tryd.sizeOf21
  v21 := Tryd.zeroValue21
  t31 := Tryd.underlying25
  a31 := Tryd.isAgg25
  z31 := Tryd.sizeOf25
  v31 := Tryd.zeroValue25
  t46 := Tryd.underlying98
  a46 := Tryd.isAgg98
  z46 := Tryd.sizeOf98
  v46 := Tryd.zeroValue98
  t51 := Tryd.underlying106
  a51 := Tryd.isAgg106
  z51 := Tryd.sizeOf106
  v51 := Tryd.zeroValue106
  t105 := Tryd.underlying103
  a105 := Tryd.isAgg103
  z105 := Tryd.sizeOf103
  v105 := Tryd.zeroValue103
  t119 := Tryd.underlying113
  a119 := Tryd.isAgg113
  z119 := Tryd.sizeOf113
  t138 := Tryd.underlying115
  a138 := Tryd.isAgg115
  z138 := Tryd.sizeOf115
  v138 := Tryd.zeroValue115
  t139 := Tryd.underlying116
  a139 := Tryd.isAgg116
  z139 := Tryd.sizeOf116
  v139 := Tryd.zeroValue116
  t146 := Tryd.underlying107
  a146 := Tryd.isAgg107
  z146 := Tryd.sizeOf107
  v146 := Tryd.zeroValue107
  g1 := by kernel_rfl
  g3 := by kernel_rfl
  g4 := by kernel_rfl }
open Go.RowKit Go.Lib in
theorem Tryd.strings_genSplit (s sep : ByteArray) (sv : Nat) (n : Int) (N : Nat) (m : Int) (w : World) (hs : s.size < 4294967281) (hm : w.cell? ⟨0, 0, none⟩ = some (.int .i64 m)) (h1 : 1 ≤ sep.size) (hsv : sv ≤ sep.size) (hn0 : n ≠ 0) (hn63 : n ≤ 9223372036854775807) (hN : (N : Int) = min (if n < 0 then (Lib.countB s sep : Int) + 1 else n) ((s.size : Int) + 1)) :
    Calls Tryd.prog 80 #[.string s, .string sep, .int .i64 sv, .int .i64 n] w fun e w' =>
      e = .returned (.slice (some ⟨w.heap.size, 0, none⟩) (Lib.splitB sep sv (N - 1) s).length N) ∧ w' = w.alloc (.cells (Lib.cellsOf (Lib.splitB sep sv (N - 1) s) N) 9) := Any.strings_genSplit Tryd.lays221 (by kernel_rfl) s sep sv n N m w hs hm h1 hsv hn0 hn63 hN
def Tryd.lays146_ren : Go.Shelf.Ren := ⟨fun | 146 => 60 | 221 => 80 | 268 => 88 | 138 => 89 | 143 => 90 | 195 => 96 | 197 => 97 | 218 => 98 | 219 => 99 | 260 => 103 | 217 => 104 | 225 => 105 | 224 => 106 | 267 => 107 | 266 => 108 | 314 => 109 | n => n, fun | 9 => 9 | 31 => 25 | 3 => 3 | 4 => 4 | 0 => 0 | 105 => 103 | 21 => 21 | 5 => 5 | 46 => 98 | 119 => 113 | 139 => 116 | 138 => 115 | 146 => 107 | 51 => 106 | n => n, fun | 1 => 0 | 3 => 1 | 4 => 2 | n => n⟩
theorem Tryd.lays146 : Go.Proofs.Lays.n146 Tryd.prog Tryd.lays146_ren := {
  mixed := by kernel_rfl
  f138 := Tryd.func89.trans (congrArg some (by kernel_rfl))
  f143 := Tryd.func90.trans (congrArg some (by kernel_rfl))
  f146 := Tryd.func60.trans (congrArg some (by kernel_rfl))
  f195 := Tryd.func96.trans (congrArg some (by kernel_rfl))
  f197 := Tryd.func97.trans (congrArg some (by kernel_rfl))
  f217 := Tryd.func104.trans (congrArg some (by kernel_rfl))
  f218 := Tryd.func98.trans (congrArg some (by kernel_rfl))
  f219 := Tryd.func99.trans (congrArg some (by kernel_rfl))
  f221 := Tryd.func80.trans (congrArg some (by kernel_rfl))
  f224 := Tryd.func106.trans (congrArg some (by kernel_rfl))
  f225 := Tryd.func105.trans (congrArg some (by kernel_rfl))
  f260 := Tryd.func103.trans (congrArg some (by kernel_rfl))
  f266 := Tryd.func108.trans (congrArg some (by kernel_rfl))
  f267 := Tryd.func107.trans (congrArg some (by kernel_rfl))
  f268 := Tryd.func88.trans (congrArg some (by kernel_rfl))
  f314 := Tryd.func109.trans (congrArg some (by kernel_rfl))
  t0 := Tryd.underlying0
  a0 := Tryd.isAgg0
  z0 := Tryd.sizeOf0
  v0 := Tryd.zeroValue0
  t3 := Tryd.underlying3
  a3 := Tryd.isAgg3
  z3 := Tryd.sizeOf3
  v3 := Tryd.zeroValue3
  t4 := Tryd.underlying4
  a4 := Tryd.isAgg4
  z4 := Tryd.sizeOf4
  v4 := Tryd.zeroValue4
  t5 := Tryd.underlying5
  a5 := Tryd.isAgg5
  z5 := Tryd.sizeOf5
  v5 := Tryd.zeroValue5
  t9 := Tryd.underlying9
  a9 := Tryd.isAgg9
  z9 := Tryd.sizeOf9
  v9 := Tryd.zeroValue9
  t21 := Tryd.underlying21
  a21 := Tryd.isAgg21
  z21 := Tryd.sizeOf21
  v21 := Tryd.zeroValue21
  t31 := Tryd.underlying25
  a31 := Tryd.isAgg25
  z31 := Tryd.sizeOf25
  v31 := Tryd.zeroValue25
  t46 := Tryd.underlying98
  a46 := Tryd.isAgg98
  z46 := Tryd.sizeOf98
  v46 := Tryd.zeroValue98
  t51 := Tryd.underlying106
  a51 := Tryd.isAgg106
  z51 := Tryd.sizeOf106
  v51 := Tryd.zeroValue106
  t105 := Tryd.underlying103
  a105 := Tryd.isAgg103
  z105 := Tryd.sizeOf103
  v105 := Tryd.zeroValue103
  t119 := Tryd.underlying113
  a119 := Tryd.isAgg113
  z119 := Tryd.sizeOf113
  t138 := Tryd.underlying115
  a138 := Tryd.isAgg115
  z138 := Tryd.sizeOf115
  v138 := Tryd.zeroValue115
  t139 := Tryd.underlying116
  a139 := Tryd.isAgg116
  z139 := Tryd.sizeOf116
  v139 := Tryd.zeroValue116
  t146 := Tryd.underlying107
  a146 := Tryd.isAgg107
  z146 := Tryd.sizeOf107
  v146 := Tryd.zeroValue107
  g1 := by kernel_rfl
  g3 := by kernel_rfl
  g4 := by kernel_rfl }
open Go.RowKit Go.Lib in
/-- strings.Split. (LAID: no walk: one application.) -/
theorem Tryd.strings_Split (s sep : ByteArray) (m : Int) (w : World) (hs : s.size < 4294967281) (hm : w.cell? ⟨0, 0, none⟩ = some (.int .i64 m)) (h1 : 1 ≤ sep.size) :
    Calls Tryd.prog 60 #[.string s, .string sep] w fun e w' =>
      e = .returned (.slice (some ⟨w.heap.size, 0, none⟩) (Lib.countB s sep + 1) (Lib.countB s sep + 1)) ∧ w' = w.alloc (.cells ((Lib.splitB sep 0 (Lib.countB s sep) s).map Value.string).toArray 9) := Any.strings_Split Tryd.lays146 (by kernel_rfl) s sep m w hs hm h1
def Tryd.laysM146_ren : Go.Shelf.Ren := ⟨fun | 146 => 60 | 221 => 80 | 268 => 88 | 138 => 89 | 143 => 90 | 195 => 96 | 197 => 97 | 218 => 98 | 219 => 99 | 260 => 103 | 217 => 104 | 225 => 105 | 224 => 106 | 267 => 107 | 266 => 108 | 314 => 109 | n => n, fun | 9 => 9 | 31 => 25 | 3 => 3 | 4 => 4 | 0 => 0 | 105 => 103 | 21 => 21 | 5 => 5 | 46 => 98 | 119 => 113 | 139 => 116 | 138 => 115 | 146 => 107 | 51 => 106 | n => n, fun | 1 => 0 | 3 => 1 | 4 => 2 | n => n⟩
theorem Tryd.laysM146 : Go.Proofs.LaysM.n146 Tryd.prog Tryd.laysM146_ren := {
  mixed := by kernel_rfl
  f138 := Tryd.func89.trans (congrArg some (by kernel_rfl))
  f143 := Tryd.func90.trans (congrArg some (by kernel_rfl))
  f146 := Tryd.func60.trans (congrArg some (by kernel_rfl))
  f195 := Tryd.func96.trans (congrArg some (by kernel_rfl))
  f197 := Tryd.func97.trans (congrArg some (by kernel_rfl))
  f217 := Tryd.func104.trans (congrArg some (by kernel_rfl))
  f218 := Tryd.func98.trans (congrArg some (by kernel_rfl))
  f219 := Tryd.func99.trans (congrArg some (by kernel_rfl))
  f221 := Tryd.func80.trans (congrArg some (by kernel_rfl))
  f224 := Tryd.func106.trans (congrArg some (by kernel_rfl))
  f225 := Tryd.func105.trans (congrArg some (by kernel_rfl))
  f260 := Tryd.func103.trans (congrArg some (by kernel_rfl))
  f266 := Tryd.func108.trans (congrArg some (by kernel_rfl))
  f267 := Tryd.func107.trans (congrArg some (by kernel_rfl))
  f268 := Tryd.func88.trans (congrArg some (by kernel_rfl))
  f314 := Tryd.func109.trans (congrArg some (by kernel_rfl))
  t0 := Tryd.underlying0
  a0 := Tryd.isAgg0
  z0 := Tryd.sizeOf0
  v0 := Tryd.zeroValue0
  t3 := Tryd.underlying3
  a3 := Tryd.isAgg3
  z3 := Tryd.sizeOf3
  v3 := Tryd.zeroValue3
  t4 := Tryd.underlying4
  a4 := Tryd.isAgg4
  z4 := Tryd.sizeOf4
  v4 := Tryd.zeroValue4
  t5 := Tryd.underlying5
  a5 := Tryd.isAgg5
  z5 := Tryd.sizeOf5
  v5 := Tryd.zeroValue5
  t9 := Tryd.underlying9
  a9 := Tryd.isAgg9
  z9 := Tryd.sizeOf9
  v9 := Tryd.zeroValue9
  t21 := Tryd.underlying21
  a21 := Tryd.isAgg21
  z21 := Tryd.sizeOf21
  v21 := Tryd.zeroValue21
  t31 := Tryd.underlying25
  a31 := Tryd.isAgg25
  z31 := Tryd.sizeOf25
  v31 := Tryd.zeroValue25
  t46 := Tryd.underlying98
  a46 := Tryd.isAgg98
  z46 := Tryd.sizeOf98
  v46 := Tryd.zeroValue98
  t51 := Tryd.underlying106
  a51 := Tryd.isAgg106
  z51 := Tryd.sizeOf106
  v51 := Tryd.zeroValue106
  t105 := Tryd.underlying103
  a105 := Tryd.isAgg103
  z105 := Tryd.sizeOf103
  v105 := Tryd.zeroValue103
  t119 := Tryd.underlying113
  a119 := Tryd.isAgg113
  z119 := Tryd.sizeOf113
  t138 := Tryd.underlying115
  a138 := Tryd.isAgg115
  z138 := Tryd.sizeOf115
  v138 := Tryd.zeroValue115
  t139 := Tryd.underlying116
  a139 := Tryd.isAgg116
  z139 := Tryd.sizeOf116
  v139 := Tryd.zeroValue116
  t146 := Tryd.underlying107
  a146 := Tryd.isAgg107
  z146 := Tryd.sizeOf107
  v146 := Tryd.zeroValue107
  g1 := by kernel_rfl
  g3 := by kernel_rfl
  g4 := by kernel_rfl
  i0 := by kernel_rfl
  i3 := by kernel_rfl
  i4 := by kernel_rfl
  i5 := by kernel_rfl
  i9 := by kernel_rfl
  i21 := by kernel_rfl
  i31 := by kernel_rfl
  i46 := by kernel_rfl
  i51 := by kernel_rfl
  i105 := by kernel_rfl
  i138 := by kernel_rfl
  i139 := by kernel_rfl
  i146 := by kernel_rfl
  m1 := by kernel_rfl
  s1_3 := fun w h => Go.Proofs.cell_of_shapedOpen_int (zero := #[.int .i64 0]) (t := 3) h (of_decide_eq_true (by kernel_rfl)) (by kernel_rfl) rfl (by kernel_rfl) (by kernel_rfl) Tryd.underlying3
  m3 := by kernel_rfl
  m4 := by kernel_rfl }
open Go.RowKit Go.Lib in
/-- strings.Split, sep not empty. (LAID: no walk: one application.) -/
theorem Tryd.strings_Split_shaped (s sep : ByteArray) (w : World) (h : w.ShapedOpen Tryd.prog) (hs : s.size < 4294967281) (h1 : 1 ≤ sep.size) :
    Calls Tryd.prog 60 #[.string s, .string sep] w fun e w' =>
      e = .returned (.slice (some ⟨w.heap.size, 0, none⟩) (Lib.countB s sep + 1) (Lib.countB s sep + 1)) ∧ w' = w.alloc (.cells ((Lib.splitB sep 0 (Lib.countB s sep) s).map Value.string).toArray 9) := Any.strings_Split_shaped Tryd.laysM146 s sep w h hs h1
def Tryd.lays197_ren : Go.Shelf.Ren := ⟨fun | 197 => 97 | 260 => 103 | n => n, fun | 9 => 9 | 21 => 21 | 3 => 3 | 4 => 4 | 5 => 5 | 105 => 103 | 119 => 113 | 0 => 0 | 46 => 98 | 139 => 116 | 138 => 115 | n => n, fun | 3 => 1 | 4 => 2 | n => n⟩
theorem Tryd.lays197 : Go.Proofs.Lays.n197 Tryd.prog Tryd.lays197_ren := {
  mixed := by kernel_rfl
  f197 := Tryd.func97.trans (congrArg some (by kernel_rfl))
  f260 := Tryd.func103.trans (congrArg some (by kernel_rfl))
  t0 := Tryd.underlying0
  a0 := Tryd.isAgg0
  z0 := Tryd.sizeOf0
  v0 := Tryd.zeroValue0
  t3 := Tryd.underlying3
  a3 := Tryd.isAgg3
  z3 := Tryd.sizeOf3
  v3 := Tryd.zeroValue3
  t4 := Tryd.underlying4
  a4 := Tryd.isAgg4
  z4 := Tryd.sizeOf4
  v4 := Tryd.zeroValue4
  t5 := Tryd.underlying5
  a5 := Tryd.isAgg5
  z5 := Tryd.sizeOf5
  v5 := Tryd.zeroValue5
  t9 := Tryd.underlying9
  a9 := Tryd.isAgg9
  z9 := Tryd.sizeOf9
  v9 := Tryd.zeroValue9
  t21 := Tryd.underlying21
  a21 := Tryd.isAgg21
  z21 := Tryd.sizeOf21
  v21 := Tryd.zeroValue21
  t46 := Tryd.underlying98
  a46 := Tryd.isAgg98
  z46 := Tryd.sizeOf98
  v46 := Tryd.zeroValue98
  t105 := Tryd.underlying103
  a105 := Tryd.isAgg103
  z105 := Tryd.sizeOf103
  v105 := Tryd.zeroValue103
  t119 := Tryd.underlying113
  a119 := Tryd.isAgg113
  z119 := Tryd.sizeOf113
  t138 := Tryd.underlying115
  a138 := Tryd.isAgg115
  z138 := Tryd.sizeOf115
  v138 := Tryd.zeroValue115
  t139 := Tryd.underlying116
  a139 := Tryd.isAgg116
  z139 := Tryd.sizeOf116
  v139 := Tryd.zeroValue116
  g3 := by kernel_rfl
  g4 := by kernel_rfl }
open Go.RowKit Go.Lib in
/-- unicode/utf8.DecodeRuneInString: "DecodeRuneInString is like DecodeRune but its input is a string.": ("DecodeRune unpacks the first UTF-8 encoding in p and returns the rune and its width in bytes."): WHERE s BEGINS WITH AN ASCII BYTE x: (x, 1). (LAID: no walk: one application.) -/
theorem Tryd.utf8_DecodeRuneInString_ascii (s : ByteArray) (x : UInt8) (w : World) (h0 : s.data.toList[0]? = some x) (hx : x.toNat < 128) :
    Calls Tryd.prog 97 #[.string s] w fun e w' => e = .returned (.tuple #[.int .i32 x.toNat, .int .i64 1]) ∧ w' = w := Any.utf8_DecodeRuneInString_ascii Tryd.lays197 s x w h0 hx
open Go.RowKit Go.Lib in
theorem Tryd.utf8_RuneCountInString_ascii (s : ByteArray) (w : World) (hs : s.size < 4294967281) (hascii : ∀ (j : Nat) b, s.data.toList[j]? = some b → b.toNat < 128) :
    Calls Tryd.prog 96 #[.string s] w fun e w' => e = .returned (.int .i64 s.size) ∧ w' = w.iter s s.size := Any.utf8_RuneCountInString_ascii Tryd.lays195 s w hs hascii
def Tryd.lays268_ren : Go.Shelf.Ren := ⟨fun | 268 => 88 | 195 => 96 | 197 => 97 | 260 => 103 | n => n, fun | 9 => 9 | 3 => 3 | 31 => 25 | 4 => 4 | 105 => 103 | 21 => 21 | 0 => 0 | 5 => 5 | 119 => 113 | 46 => 98 | 139 => 116 | 138 => 115 | n => n, fun | 3 => 1 | 4 => 2 | n => n⟩
theorem Tryd.lays268 : Go.Proofs.Lays.n268 Tryd.prog Tryd.lays268_ren := {
  mixed := by kernel_rfl
  f195 := Tryd.func96.trans (congrArg some (by kernel_rfl))
  f197 := Tryd.func97.trans (congrArg some (by kernel_rfl))
  f260 := Tryd.func103.trans (congrArg some (by kernel_rfl))
  f268 := Tryd.func88.trans (congrArg some (by kernel_rfl))
  t0 := Tryd.underlying0
  a0 := Tryd.isAgg0
  z0 := Tryd.sizeOf0
  v0 := Tryd.zeroValue0
  t3 := Tryd.underlying3
  a3 := Tryd.isAgg3
  z3 := Tryd.sizeOf3
  v3 := Tryd.zeroValue3
  t4 := Tryd.underlying4
  a4 := Tryd.isAgg4
  z4 := Tryd.sizeOf4
  v4 := Tryd.zeroValue4
  t5 := Tryd.underlying5
  a5 := Tryd.isAgg5
  z5 := Tryd.sizeOf5
  v5 := Tryd.zeroValue5
  t9 := Tryd.underlying9
  a9 := Tryd.isAgg9
  z9 := Tryd.sizeOf9
  v9 := Tryd.zeroValue9
  t21 := Tryd.underlying21
  a21 := Tryd.isAgg21
  z21 := Tryd.sizeOf21
  v21 := Tryd.zeroValue21
  t31 := Tryd.underlying25
  a31 := Tryd.isAgg25
  z31 := Tryd.sizeOf25
  v31 := Tryd.zeroValue25
  t46 := Tryd.underlying98
  a46 := Tryd.isAgg98
  z46 := Tryd.sizeOf98
  v46 := Tryd.zeroValue98
  t105 := Tryd.underlying103
  a105 := Tryd.isAgg103
  z105 := Tryd.sizeOf103
  v105 := Tryd.zeroValue103
  t119 := Tryd.underlying113
  a119 := Tryd.isAgg113
  z119 := Tryd.sizeOf113
  t138 := Tryd.underlying115
  a138 := Tryd.isAgg115
  z138 := Tryd.sizeOf115
  v138 := Tryd.zeroValue115
  t139 := Tryd.underlying116
  a139 := Tryd.isAgg116
  z139 := Tryd.sizeOf116
  v139 := Tryd.zeroValue116
  g3 := by kernel_rfl
  g4 := by kernel_rfl }
open Go.RowKit Go.Lib in
theorem Tryd.strings_explode_all (s : ByteArray) (n : Int) (w : World) (hn : n < 0) (hs : s.size < 4294967281) (hascii : ∀ (j : Nat) b, s.data.toList[j]? = some b → b.toNat < 128) :
    Calls Tryd.prog 88 #[.string s, .int .i64 n] w fun e w' =>
      e = .returned (.slice (some ⟨(w.iter s s.size).heap.size, 0, none⟩) s.size s.size) ∧ w' = (w.iter s s.size).alloc (.cells ((Lib.charsB s).map Value.string).toArray 9) := Any.strings_explode_all Tryd.lays268 (by kernel_rfl) s n w hn hs hascii
open Go.RowKit Go.Lib in
/-- strings.genSplit at sep == "", n < 0: 'return explode(s, n)'. (LAID: no walk: one application.) -/
theorem Tryd.strings_genSplit_chars (s sep : ByteArray) (sv n : Int) (w : World) (h0 : sep.size = 0) (hn : n < 0) (hs : s.size < 4294967281) (hascii : ∀ (j : Nat) b, s.data.toList[j]? = some b → b.toNat < 128) :
    Calls Tryd.prog 80 #[.string s, .string sep, .int .i64 sv, .int .i64 n] w fun e w' =>
      e = .returned (.slice (some ⟨(w.iter s s.size).heap.size, 0, none⟩) s.size s.size) ∧ w' = (w.iter s s.size).alloc (.cells ((Lib.charsB s).map Value.string).toArray 9) := Any.strings_genSplit_chars Tryd.lays221 (by kernel_rfl) s sep sv n w h0 hn hs hascii
open Go.RowKit Go.Lib in
/-- strings.Split(s, ""), s ASCII: a piece a byte. (LAID: no walk: one application.) -/
theorem Tryd.strings_Split_chars (s sep : ByteArray) (w : World) (h0 : sep.size = 0) (hs : s.size < 4294967281) (hascii : ∀ (j : Nat) b, s.data.toList[j]? = some b → b.toNat < 128) :
    Calls Tryd.prog 60 #[.string s, .string sep] w fun e w' =>
      e = .returned (.slice (some ⟨(w.iter s s.size).heap.size, 0, none⟩) s.size s.size) ∧ w' = (w.iter s s.size).alloc (.cells ((Lib.charsB s).map Value.string).toArray 9) := Any.strings_Split_chars Tryd.lays146 (by kernel_rfl) s sep w h0 hs hascii
def Tryd.lays264_ren : Go.Shelf.Ren := ⟨fun | 264 => 102 | n => n, fun | 53 => 109 | 46 => 98 | n => n, fun | n => n⟩
theorem Tryd.lays264 : Go.Proofs.Lays.n264 Tryd.prog Tryd.lays264_ren := {
  mixed := by kernel_rfl
  f264 := Tryd.func102.trans (congrArg some (by kernel_rfl))
  t46 := Tryd.underlying98
  a46 := Tryd.isAgg98
  z46 := Tryd.sizeOf98
  v46 := Tryd.zeroValue98
  t53 := Tryd.underlying109
  a53 := Tryd.isAgg109
  z53 := Tryd.sizeOf109
  v53 := Tryd.zeroValue109 }
open Go.RowKit Go.Lib in
theorem Tryd.bits_Mul64 (x y : Nat) (hx : x < 18446744073709551616) (hy : y < 18446744073709551616) (w : World) :
    Calls Tryd.prog 102 #[.int .u64 x, .int .u64 y] w fun e w' => e = .returned (.tuple #[.int .u64 ((x * y / 18446744073709551616 : Nat) : Int), .int .u64 ((x * y % 18446744073709551616 : Nat) : Int)]) ∧ w' = w := Any.bits_Mul64 Tryd.lays264 x y hx hy w
def Tryd.lays212_ren : Go.Shelf.Ren := ⟨fun | 212 => 94 | 263 => 101 | 264 => 102 | n => n, fun | 46 => 98 | 51 => 106 | 146 => 107 | 53 => 109 | 148 => 110 | n => n, fun | n => n⟩
theorem Tryd.lays212 : Go.Proofs.Lays.n212 Tryd.prog Tryd.lays212_ren := {
  mixed := by kernel_rfl
  f212 := Tryd.func94.trans (congrArg some (by kernel_rfl))
  f263 := Tryd.func101.trans (congrArg some (by kernel_rfl))
  f264 := Tryd.func102.trans (congrArg some (by kernel_rfl))
  t46 := Tryd.underlying98
  a46 := Tryd.isAgg98
  z46 := Tryd.sizeOf98
  v46 := Tryd.zeroValue98
  t51 := Tryd.underlying106
  a51 := Tryd.isAgg106
  z51 := Tryd.sizeOf106
  v51 := Tryd.zeroValue106
  t53 := Tryd.underlying109
  a53 := Tryd.isAgg109
  z53 := Tryd.sizeOf109
  v53 := Tryd.zeroValue109
  t146 := Tryd.underlying107
  a146 := Tryd.isAgg107
  z146 := Tryd.sizeOf107
  v146 := Tryd.zeroValue107
  t148 := Tryd.underlying110
  a148 := Tryd.isAgg110
  z148 := Tryd.sizeOf110
  v148 := Tryd.zeroValue110 }
open Go.RowKit Go.Lib in
/-- math/bits.Mul: "Mul returns the full-width product of x and y": on a machine of 64 bits: Mul64's. (LAID: no walk: one application.) -/
theorem Tryd.bits_Mul (x y : Nat) (hx : x < 18446744073709551616) (hy : y < 18446744073709551616) (w : World) :
    Calls Tryd.prog 94 #[.int .u64 x, .int .u64 y] w fun e w' => e = .returned (.tuple #[.int .u64 ((x * y / 18446744073709551616 : Nat) : Int), .int .u64 ((x * y % 18446744073709551616 : Nat) : Int)]) ∧ w' = w := Any.bits_Mul Tryd.lays212 x y hx hy w
def Tryd.lays105_ren : Go.Shelf.Ren := ⟨fun | 105 => 86 | 212 => 94 | 99 => 67 | 165 => 82 | 166 => 74 | 170 => 75 | 169 => 76 | 263 => 101 | 264 => 102 | 206 => 85 | 240 => 87 | 241 => 92 | 276 => 95 | 277 => 100 | n => n, fun | 9 => 9 | 3 => 3 | 4 => 4 | 20 => 20 | 0 => 0 | 46 => 98 | 109 => 99 | 5 => 5 | 72 => 80 | 76 => 84 | 51 => 106 | 146 => 107 | 53 => 109 | 148 => 110 | 70 => 77 | 37 => 78 | 75 => 82 | 127 => 96 | 164 => 101 | 80 => 87 | n => n, fun | n => n⟩
theorem Tryd.lays105 : Go.Proofs.Lays.n105 Tryd.prog Tryd.lays105_ren := {
  mixed := by kernel_rfl
  f99 := Tryd.func67.trans (congrArg some (by kernel_rfl))
  f105 := Tryd.func86.trans (congrArg some (by kernel_rfl))
  f165 := Tryd.func82.trans (congrArg some (by kernel_rfl))
  f166 := Tryd.func74.trans (congrArg some (by kernel_rfl))
  f169 := Tryd.func76.trans (congrArg some (by kernel_rfl))
  f170 := Tryd.func75.trans (congrArg some (by kernel_rfl))
  f206 := Tryd.func85.trans (congrArg some (by kernel_rfl))
  f212 := Tryd.func94.trans (congrArg some (by kernel_rfl))
  f240 := Tryd.func87.trans (congrArg some (by kernel_rfl))
  f241 := Tryd.func92.trans (congrArg some (by kernel_rfl))
  f263 := Tryd.func101.trans (congrArg some (by kernel_rfl))
  f264 := Tryd.func102.trans (congrArg some (by kernel_rfl))
  f276 := Tryd.func95.trans (congrArg some (by kernel_rfl))
  f277 := Tryd.func100.trans (congrArg some (by kernel_rfl))
  t0 := Tryd.underlying0
  a0 := Tryd.isAgg0
  z0 := Tryd.sizeOf0
  v0 := Tryd.zeroValue0
  t3 := Tryd.underlying3
  a3 := Tryd.isAgg3
  z3 := Tryd.sizeOf3
  v3 := Tryd.zeroValue3
  t4 := Tryd.underlying4
  a4 := Tryd.isAgg4
  z4 := Tryd.sizeOf4
  v4 := Tryd.zeroValue4
  t5 := Tryd.underlying5
  a5 := Tryd.isAgg5
  z5 := Tryd.sizeOf5
  v5 := Tryd.zeroValue5
  t9 := Tryd.underlying9
  a9 := Tryd.isAgg9
  z9 := Tryd.sizeOf9
  v9 := Tryd.zeroValue9
  t20 := Tryd.underlying20
  a20 := Tryd.isAgg20
  z20 := Tryd.sizeOf20
  v20 := Tryd.zeroValue20
  t37 := Tryd.underlying78
  a37 := Tryd.isAgg78
  z37 := Tryd.sizeOf78
  v37 := Tryd.zeroValue78
  t46 := Tryd.underlying98
  a46 := Tryd.isAgg98
  z46 := Tryd.sizeOf98
  v46 := Tryd.zeroValue98
  t51 := Tryd.underlying106
  a51 := Tryd.isAgg106
  z51 := Tryd.sizeOf106
  v51 := Tryd.zeroValue106
  t53 := Tryd.underlying109
  a53 := Tryd.isAgg109
  z53 := Tryd.sizeOf109
  v53 := Tryd.zeroValue109
  t70 := Tryd.underlying77
  a70 := Tryd.isAgg77
  z70 := Tryd.sizeOf77
  v70 := Tryd.zeroValue77
  t72 := Tryd.underlying80
  a72 := Tryd.isAgg80
  z72 := Tryd.sizeOf80
  v72 := Tryd.zeroValue80
  t75 := Tryd.underlying82
  a75 := Tryd.isAgg82
  z75 := Tryd.sizeOf82
  v75 := Tryd.zeroValue82
  t76 := Tryd.underlying84
  a76 := Tryd.isAgg84
  z76 := Tryd.sizeOf84
  v76 := Tryd.zeroValue84
  t109 := Tryd.underlying99
  a109 := Tryd.isAgg99
  z109 := Tryd.sizeOf99
  v109 := Tryd.zeroValue99
  t127 := Tryd.underlying96
  a127 := Tryd.isAgg96
  z127 := Tryd.sizeOf96
  v127 := Tryd.zeroValue96
  t146 := Tryd.underlying107
  a146 := Tryd.isAgg107
  z146 := Tryd.sizeOf107
  v146 := Tryd.zeroValue107
  t148 := Tryd.underlying110
  a148 := Tryd.isAgg110
  z148 := Tryd.sizeOf110
  v148 := Tryd.zeroValue110
  t164 := Tryd.underlying101
  a164 := Tryd.isAgg101
  z164 := Tryd.sizeOf101
  v164 := Tryd.zeroValue101 }
theorem Tryd.Builder_Extra_105 : Builder.Extra Tryd.prog Tryd.lays105_ren := {
  sizeBuilder := by kernel_rfl
  liesBuilder := by kernel_rfl
  t5 := Tryd.underlying5
  a5 := Tryd.isAgg5
  z5 := Tryd.sizeOf5
  v5 := Tryd.zeroValue5
  infoByte := by kernel_rfl
  cellsByte := by kernel_rfl
  sizeByte := by kernel_rfl
  neB5 := by decide }
open Go.RowKit Go.Lib in
/-- THE MAIN CASE: at least two copies of a string that is not empty. (LAID: no walk: one application.) -/
theorem Tryd.strings_Repeat_main (s : ByteArray) (c : Nat) (w : World) (hc2 : 2 ≤ c) (hc : c ≤ 9223372036854775807) (hlen : s.size * c ≤ 140737488355328) (h0 : 0 < s.size) :
    Calls Tryd.prog 86 #[.string s, .int .i64 c] w fun e w' => e = .returned (.string ⟨(Lib.repeatL s.data.toList c).toArray⟩) ∧ Below w.heap.size w w' := Any.strings_Repeat_main Tryd.lays105 Tryd.Builder_Extra_105 s c w hc2 hc hlen h0
open Go.RowKit Go.Lib in
theorem Tryd.strings_Repeat_zero (s : ByteArray) (w : World) :
    Calls Tryd.prog 86 #[.string s, .int .i64 0] w fun e w' => e = .returned (.string ⟨#[]⟩) ∧ w' = w := Any.strings_Repeat_zero Tryd.lays105 s w
open Go.RowKit Go.Lib in
theorem Tryd.strings_Repeat_one (s : ByteArray) (w : World) :
    Calls Tryd.prog 86 #[.string s, .int .i64 1] w fun e w' => e = .returned (.string s) ∧ w' = w := Any.strings_Repeat_one Tryd.lays105 s w
open Go.RowKit Go.Lib in
/-- Copies of the empty string. (LAID: no walk: one application.) -/
theorem Tryd.strings_Repeat_empty (s : ByteArray) (c : Nat) (w : World) (hc2 : 2 ≤ c) (hc : c ≤ 9223372036854775807) (h0 : s.size = 0) :
    Calls Tryd.prog 86 #[.string s, .int .i64 c] w fun e w' => e = .returned (.string ⟨#[]⟩) ∧ w' = w := Any.strings_Repeat_empty Tryd.lays105 s c w hc2 hc h0
open Go.RowKit Go.Lib in
/-- count < 0: "It panics if count is negative". (LAID: no walk: one application.) -/
theorem Tryd.strings_Repeat_negative (s : ByteArray) (c : Int) (w : World) (hc : c < 0) :
    Calls Tryd.prog 86 #[.string s, .int .i64 c] w fun e w' => e = .panicked [{ v := repeatPanic Tryd.lays105_ren "strings: negative Repeat count", recovered := false }] ∧ w' = w := Any.strings_Repeat_negative Tryd.lays105 s c w hc
open Go.RowKit Go.Lib in
/-- len(s) * count is no int: ".. or if the result of (len(s) * count) overflows". (LAID: no walk: one application.) -/
theorem Tryd.strings_Repeat_overflow (s : ByteArray) (c : Nat) (w : World) (hc : c ≤ 9223372036854775807) (hs : s.size ≤ 9223372036854775807) (hbig : 9223372036854775807 < s.size * c) :
    Calls Tryd.prog 86 #[.string s, .int .i64 c] w fun e w' => e = .panicked [{ v := repeatPanic Tryd.lays105_ren "strings: Repeat output length overflow", recovered := false }] ∧ w' = w := Any.strings_Repeat_overflow Tryd.lays105 s c w hc hs hbig
open Go.RowKit Go.Lib in
/-- **strings.Repeat: count ≥ 0, the result within one allocation: count copies of s.** (LAID: no walk: one application.) -/
theorem Tryd.strings_Repeat (s : ByteArray) (c : Nat) (w : World) (hc : c ≤ 9223372036854775807) (hlen : s.size * c ≤ 140737488355328) :
    Calls Tryd.prog 86 #[.string s, .int .i64 c] w fun e w' => e = .returned (.string ⟨(Lib.repeatL s.data.toList c).toArray⟩) ∧ Below w.heap.size w w' := Any.strings_Repeat Tryd.lays105 Tryd.Builder_Extra_105 s c w hc hlen
def Tryd.lays260_ren : Go.Shelf.Ren := ⟨fun | 260 => 103 | n => n, fun | 9 => 9 | 21 => 21 | 3 => 3 | 4 => 4 | 5 => 5 | 119 => 113 | 0 => 0 | 46 => 98 | 139 => 116 | 138 => 115 | n => n, fun | 3 => 1 | 4 => 2 | n => n⟩
theorem Tryd.lays260 : Go.Proofs.Lays.n260 Tryd.prog Tryd.lays260_ren := {
  mixed := by kernel_rfl
  f260 := Tryd.func103.trans (congrArg some (by kernel_rfl))
  t0 := Tryd.underlying0
  a0 := Tryd.isAgg0
  z0 := Tryd.sizeOf0
  v0 := Tryd.zeroValue0
  t3 := Tryd.underlying3
  a3 := Tryd.isAgg3
  z3 := Tryd.sizeOf3
  v3 := Tryd.zeroValue3
  t4 := Tryd.underlying4
  a4 := Tryd.isAgg4
  z4 := Tryd.sizeOf4
  v4 := Tryd.zeroValue4
  t5 := Tryd.underlying5
  a5 := Tryd.isAgg5
  z5 := Tryd.sizeOf5
  v5 := Tryd.zeroValue5
  t9 := Tryd.underlying9
  a9 := Tryd.isAgg9
  z9 := Tryd.sizeOf9
  v9 := Tryd.zeroValue9
  t21 := Tryd.underlying21
  a21 := Tryd.isAgg21
  z21 := Tryd.sizeOf21
  v21 := Tryd.zeroValue21
  t46 := Tryd.underlying98
  a46 := Tryd.isAgg98
  z46 := Tryd.sizeOf98
  v46 := Tryd.zeroValue98
  t119 := Tryd.underlying113
  a119 := Tryd.isAgg113
  z119 := Tryd.sizeOf113
  t138 := Tryd.underlying115
  a138 := Tryd.isAgg115
  z138 := Tryd.sizeOf115
  v138 := Tryd.zeroValue115
  t139 := Tryd.underlying116
  a139 := Tryd.isAgg116
  z139 := Tryd.sizeOf116
  v139 := Tryd.zeroValue116
  g3 := by kernel_rfl
  g4 := by kernel_rfl }
open Go.RowKit Go.Lib in
theorem Tryd.utf8_decodeRuneInStringSlow (s : ByteArray) (w : World) (hT : Lib.Utf8Tabs 1 2 w) :
    Calls Tryd.prog 103 #[.string s] w fun e w' => e = .returned (.tuple #[.int .i32 (Lib.decodeGo s).1, .int .i64 (Lib.decodeGo s).2]) ∧ Below w.heap.size w w' := Any.utf8_decodeRuneInStringSlow Tryd.lays260 s w hT
open Go.RowKit Go.Lib in
/-- **unicode/utf8.DecodeRuneInString AT EVERY STRING.** (LAID: no walk: one application.) -/
theorem Tryd.utf8_DecodeRuneInString (s : ByteArray) (w : World) (hT : Lib.Utf8Tabs 1 2 w) :
    Calls Tryd.prog 97 #[.string s] w fun e w' => e = .returned (.tuple #[.int .i32 (Lib.decodeGo s).1, .int .i64 (Lib.decodeGo s).2]) ∧ Below w.heap.size w w' := Any.utf8_DecodeRuneInString Tryd.lays197 s w hT
def Tryd.laysPa45_ren : Go.Shelf.Ren := ⟨fun | 45 => 79 | n => n, fun | 9 => 9 | 5 => 5 | 3 => 3 | 4 => 4 | n => n, fun | n => n⟩
theorem Tryd.laysPa45 : Go.Proofs.Lays.p45 Tryd.prog Tryd.laysPa45_ren := {
  mixed := by kernel_rfl
  f45 := Tryd.func79.trans (congrArg some (by kernel_rfl))
  t3 := Tryd.underlying3
  a3 := Tryd.isAgg3
  z3 := Tryd.sizeOf3
  v3 := Tryd.zeroValue3
  t4 := Tryd.underlying4
  a4 := Tryd.isAgg4
  z4 := Tryd.sizeOf4
  v4 := Tryd.zeroValue4
  t5 := Tryd.underlying5
  a5 := Tryd.isAgg5
  z5 := Tryd.sizeOf5
  v5 := Tryd.zeroValue5
  t9 := Tryd.underlying9
  a9 := Tryd.isAgg9
  z9 := Tryd.sizeOf9
  v9 := Tryd.zeroValue9 }
open Go.RowKit Go.Lib in
/-- internal/bytealg.LastIndexByteString (what strings.LastIndexByte calls: "LastIndexByte returns the index of the last instance of c in s, or -1 if c is not present in s."): IT RETURNS 'Pa.lastIndexByte s c'; the world is as it was. (LAID: no walk: one application.) -/
theorem Tryd.bytealg_LastIndexByteString (s : ByteArray) (c : UInt8) (w : World) (hs : s.size ≤ 9223372036854775807) :
    Calls Tryd.prog 79 #[.string s, .int .u8 c.toNat] w fun e w' => e = .returned (.int .i64 (Pa.lastIndexByte s.data.toList c)) ∧ w' = w := Any.bytealg_LastIndexByteString Tryd.laysPa45 s c w hs
end Go.Proofs

/- strings.Split and strings.Cut at a separator of one byte: what they answer does not hang on internal/bytealg.MaxLen. -/
namespace Go.Proofs.YtpcdfjifhoofjaaDoor.Lib1
open Go Go.Shelf Go.RowKit Go.Lib
set_option linter.unusedVariables false
set_option linter.unusedSimpArgs false
section
variable {P : Program} {ρ : Ren}
theorem index1 (L : Lays.n143 P ρ) (s : ByteArray) (c : UInt8) (w : World) :
    Calls P (ρ.f 143) #[.string s, .string ⟨#[c]⟩] w fun e w' => e = .returned (.int .i64 (Lib.indexB s ⟨#[c]⟩)) ∧ w' = w := by
  refine (Any.strings_Index_one L s c w).mono fun e w' ⟨he, hw⟩ => ⟨?_, hw⟩
  rw [he]
  show _ = Ending.returned (Value.int .i64 (Lib.index s.data.toList [c]))
  rw [Lib.index_one]
theorem genSplit1 (L : Lays.n221 P ρ) (hi9 : (P.info? (ρ.t 9)).map (fun i => (i.zero, i.size, i.bytes)) = some (some (.string ByteArray.empty), 1, 16)) (s : ByteArray) (c : UInt8) (n : Int) (N : Nat) (w : World)
    (hs : s.size < 4294967281) (hn0 : n ≠ 0) (hn63 : n ≤ 9223372036854775807) (hN : (N : Int) = min (if n < 0 then (Lib.countB s ⟨#[c]⟩ : Int) + 1 else n) ((s.size : Int) + 1)) :
    Calls P (ρ.f 221) #[.string s, .string ⟨#[c]⟩, .int .i64 ((0 : Nat) : Int), .int .i64 n] w fun e w' =>
      e = .returned (.slice (some ⟨w.heap.size, 0, none⟩) (Lib.splitB ⟨#[c]⟩ 0 (N - 1) s).length N) ∧ w' = w.alloc (.cells (Lib.cellsOf (Lib.splitB ⟨#[c]⟩ 0 (N - 1) s) N) (ρ.t 9)) :=
  Any.strings_genSplit_core L hi9 s ⟨#[c]⟩ 0 n N w hs (Nat.le_refl _) (Nat.zero_le _)
    (fun x cs hx => index1 { L with } x c _)
    ((Any.strings_Count_one { L with } s c w).mono fun e w' ⟨he, hw⟩ => ⟨by rw [he]; show _ = Ending.returned (Value.int .i64 ((Lib.count s.data.toList [c] : Nat) : Int)); rw [Lib.count_one]; rfl, hw⟩) hn0 hn63 hN
set_option maxHeartbeats 1000000 in
theorem split1 (L : Lays.n146 P ρ) (hi9 : (P.info? (ρ.t 9)).map (fun i => (i.zero, i.size, i.bytes)) = some (some (.string ByteArray.empty), 1, 16)) (s : ByteArray) (c : UInt8) (w : World) (hs : s.size < 4294967281) :
    Calls P (ρ.f 146) #[.string s, .string ⟨#[c]⟩] w fun e w' =>
      e = .returned (.slice (some ⟨w.heap.size, 0, none⟩) (Lib.countB s ⟨#[c]⟩ + 1) (Lib.countB s ⟨#[c]⟩ + 1)) ∧ w' = w.alloc (.cells ((Lib.splitB ⟨#[c]⟩ 0 (Lib.countB s ⟨#[c]⟩) s).map Value.string).toArray (ρ.t 9)) := by
  have h1 : 1 ≤ (⟨#[c]⟩ : ByteArray).size := Nat.le_refl _
  have hle := Lib.countB_le ⟨#[c]⟩ h1 s.size s (Nat.le_refl _)
  have hlen := Lib.splitB_all ⟨#[c]⟩ h1 0 _ s rfl
  have G := genSplit1 { L with } hi9 s c (-1) (Lib.countB s ⟨#[c]⟩ + 1) w hs (by decide) (by decide) (by rw [if_pos (by decide)]; omega)
  rw [Nat.add_sub_cancel, hlen] at G
  have e2 : Lib.cellsOf (Lib.splitB ⟨#[c]⟩ 0 (Lib.countB s ⟨#[c]⟩) s) (Lib.countB s ⟨#[c]⟩ + 1) = ((Lib.splitB ⟨#[c]⟩ 0 (Lib.countB s ⟨#[c]⟩) s).map Value.string).toArray := by rw [← hlen]; exact Lib.cellsOf_full _
  rw [e2] at G
  clear e2 hle hlen
  have t3 := L.t3; have t9 := L.t9; have t31 := L.t31
  have a3 := L.a3; have a9 := L.a9; have a31 := L.a31
  have z3 := L.z3; have v3 := L.v3; have z9 := L.z9; have v9 := L.v9; have z31 := L.z31; have v31 := L.v31
  have e221 : ∀ args w, (callFunc (ρ.f 221) args).run P w = .ok (.enter (ρ.f 221) args) w := enters_of L.f221 (by kernel_rfl) rfl
  go_enter L.f146, Body.n146_ntmps ρ
  go_wp2_with (go_at_fn (ρ.f 221); refine G.mono ?_; rintro e w' ⟨rfl, hw⟩; rw [hw])
  go_ret
  exact ⟨rfl, rfl⟩
set_option maxHeartbeats 2000000 in
set_option maxRecDepth 100000 in
theorem slcut1 (L : Lays.n220 P ρ) (s : ByteArray) (c : UInt8) (w : World) (hs : s.size < 4294967281) :
    Calls P (ρ.f 220) #[.string s, .string ⟨#[c]⟩] w fun e w' => e = .returned (.tuple #[.string ⟨(Lib.cut s.data.toList [c]).1.toArray⟩, .string ⟨(Lib.cut s.data.toList [c]).2.1.toArray⟩, .bool (Lib.cut s.data.toList [c]).2.2]) ∧ ∃ n, w' = w.drewN n := by
  have hsep : (⟨#[c]⟩ : ByteArray).data.toList = [c] := rfl
  have hsz : (⟨#[c]⟩ : ByteArray).size = 1 := rfl
  have I1 := fun (w : World) => Any.stringslite_Index_one { L with } s c w
  rw [← Lib.index_one] at I1
  rcases Lib.indexB_cases s ⟨#[c]⟩ with hix | ⟨i, hix, hroom⟩
  · obtain ⟨e1, e2, e3⟩ := Lib.cutB_miss s ⟨#[c]⟩ hix
    rw [hsep] at e1 e2 e3
    rw [e1, e2, e3]
    rw [show Lib.index s.data.toList [c] = _ from hix] at I1
    have t3 := L.t3; have t4 := L.t4; have t9 := L.t9
    have a3 : ∀ w, (isAgg (ρ.t 3)).run P w = .ok false w := run_isAgg_plain L.t3 rfl; have a4 : ∀ w, (isAgg (ρ.t 4)).run P w = .ok false w := run_isAgg_plain L.t4 rfl; have a9 : ∀ w, (isAgg (ρ.t 9)).run P w = .ok false w := run_isAgg_plain L.t9 rfl
    have e219 : ∀ args w, (callFunc (ρ.f 219) args).run P w = .ok (.enter (ρ.f 219) args) w := enters_of L.f219 (by kernel_rfl) rfl
    have mixed := L.mixed; have z3 := L.z3; have v3 := L.v3; have z4 := L.z4; have v4 := L.v4; have z9 := L.z9; have v9 := L.v9
    clear e1 e2 e3 hsep hix
    go_enter L.f220, Body.n220_ntmps ρ
    go_wp2_with (go_at_fn (ρ.f 219); refine (I1 _).mono ?_; rintro e w' ⟨rfl, rfl⟩)
    go_ret3
    exact ⟨rfl, 0, rfl⟩
  · obtain ⟨e1, e2, e3⟩ := Lib.cutB_hit s ⟨#[c]⟩ i hix
    rw [hsep] at e1 e2 e3
    rw [hsz] at hroom
    rw [hsz] at e2
    rw [e1, e2, e3]
    rw [show Lib.index s.data.toList [c] = _ from hix] at I1
    have c1 : (0 : Int) ≤ ↑i := by omega
    have c2 : (↑i : Int) ≤ ↑s.size := by omega
    have c3 : (0 : Int) ≤ ↑i + 1 := by omega
    have c4 : (↑i + 1 : Int) ≤ ↑s.size := by omega
    have t3 := L.t3; have t4 := L.t4; have t9 := L.t9
    have a3 : ∀ w, (isAgg (ρ.t 3)).run P w = .ok false w := run_isAgg_plain L.t3 rfl; have a4 : ∀ w, (isAgg (ρ.t 4)).run P w = .ok false w := run_isAgg_plain L.t4 rfl; have a9 : ∀ w, (isAgg (ρ.t 9)).run P w = .ok false w := run_isAgg_plain L.t9 rfl
    have e219 : ∀ args w, (callFunc (ρ.f 219) args).run P w = .ok (.enter (ρ.f 219) args) w := enters_of L.f219 (by kernel_rfl) rfl
    have mixed := L.mixed; have z3 := L.z3; have v3 := L.v3; have z4 := L.z4; have v4 := L.v4; have z9 := L.z9; have v9 := L.v9
    clear e1 e2 e3 hsep hix
    go_enter L.f220, Body.n220_ntmps ρ
    go_wp2_with (go_at_fn (ρ.f 219); refine (I1 _).mono ?_; rintro e w' ⟨rfl, rfl⟩)
    go_region_o
    go_wp2
    go_ret3
    exact ⟨rfl, 1, rfl⟩
set_option maxHeartbeats 1000000 in
theorem cut1 (L : Lays.n145 P ρ) (s : ByteArray) (c : UInt8) (w : World) (hs : s.size < 4294967281) :
    Calls P (ρ.f 145) #[.string s, .string ⟨#[c]⟩] w fun e w' => e = .returned (.tuple #[.string ⟨(Lib.cut s.data.toList [c]).1.toArray⟩, .string ⟨(Lib.cut s.data.toList [c]).2.1.toArray⟩, .bool (Lib.cut s.data.toList [c]).2.2]) ∧ ∃ n, w' = w.drewN n := by
  have t4 := L.t4; have t9 := L.t9; have t59 := L.t59
  have a4 : ∀ w, (isAgg (ρ.t 4)).run P w = .ok false w := run_isAgg_plain L.t4 rfl; have a9 : ∀ w, (isAgg (ρ.t 9)).run P w = .ok false w := run_isAgg_plain L.t9 rfl; have a59 : ∀ w, (isAgg (ρ.t 59)).run P w = .ok false w := run_isAgg_plain L.t59 rfl
  have e220 : ∀ args w, (callFunc (ρ.f 220) args).run P w = .ok (.enter (ρ.f 220) args) w := enters_of L.f220 (by kernel_rfl) rfl
  have mixed := L.mixed; have z4 := L.z4; have v4 := L.v4; have z9 := L.z9; have v9 := L.v9; have z59 := L.z59; have v59 := L.v59
  go_enter L.f145, Body.n145_ntmps ρ
  go_wp2_with (go_at_fn (ρ.f 220); refine (slcut1 { L with } _ _ _ hs).mono ?_; rintro e w' ⟨rfl, n, rfl⟩)
  go_ret3
  exact ⟨rfl, n, rfl⟩
end
end Go.Proofs.YtpcdfjifhoofjaaDoor.Lib1

/- The walks of package names: letter, part, Member. -/
namespace Go.Proofs.YtpcdfjifhoofjaaDoor.Nm
open Go Go.RowKit
set_option linter.unusedVariables false
set_option linter.unusedSimpArgs false
set_option maxHeartbeats 400000

theorem letter_any (n : Int) (first : Bool) (h0 : 0 ≤ n) (h1 : n ≤ 255) (w : World) : Calls Tryd.prog 77 #[.int .u8 n, .bool first] w fun e w' => e = .returned (.bool (letB n first)) ∧ w' = w := by
  go_enter Tryd.func77, Tryd.ntmps77
  go_wp2
  all_goals
    go_ret
    refine ⟨ret_bool ?_, rfl⟩
    simp_all [letB]
  all_goals omega

theorem part_any (s : ByteArray) (hs : s.size ≤ 4611686018427387904) (w : World) : Calls Tryd.prog 56 #[.string s] w fun e w' => e = .returned (.bool (partB s)) ∧ w' = w := by
  go_enter Tryd.func56, Tryd.ntmps56
  go_wp2
  go_loop [6] (fun i => ∃ k : Nat, k ≤ s.size ∧ i = .int .i64 k ∧ lets s k = true) (fun i => s.size - (intOf i).toNat)
  case atStart => exact ⟨0, Nat.zero_le _, rfl, rfl⟩
  case round =>
    obtain ⟨k, hk, rfl, hl⟩ := hrel
    replace hl := Lib.hid hl
    by_cases hlt : k < s.size
    · have hb := bt_at s k hlt
      have hr := bt_range s k
      have hsn := lets_succ s k
      generalize hbk : bt s k = n at *
      replace hbk := Lib.hid hbk
      replace hsn := Lib.hid hsn
      go_wp2_with (go_at_call 77; refine (letter_any _ _ (by omega) (by omega) _).mono ?_; rintro e w1 ⟨rfl, rfl⟩)
      · have hL : letB n ((k : Int) == 0) = false := by simp_all
        go_ret
        exact ⟨ret_bool (by rw [partB, lets_false s k s.size hlt (by rw [hbk.out]; exact hL)]; rfl), rfl⟩
      · have hL : letB n ((k : Int) == 0) = true := by simp_all
        go_round
        case rel => exact ⟨k + 1, by omega, by go_num, by rw [hsn.out, hl.out, hL]; rfl⟩
        case measure => simp [intOf]; omega
    · obtain rfl : k = s.size := by omega
      go_wp2
      go_ret
      exact ⟨ret_bool (by rw [partB, hl.out]; rfl), rfl⟩

/-- Nothing is asked of the library's variable MaxLen: each separator is one byte (see Lib1). -/
def ML (_ : World) : Prop := True
theorem ML.below {w w1 : World} (_ : ML w) (_ : Below w.heap.size w w1) : ML w1 := trivial

def strC (l : List ByteArray) : Array Value := (l.map Value.string).toArray
theorem parts_any (s : ByteArray) (hs : s.size < 4294967281) (w : World) (hm : ML w) : Calls Tryd.prog 17 #[.string s] w fun e w' =>
    e = .returned (.slice (some ⟨w.heap.size, 0, none⟩) (partsB s).length (partsB s).length) ∧ w' = w.alloc (.cells (strC (partsB s)) 9) := by
  have S := Lib1.split1 Tryd.lays146 (by kernel_rfl) s 47 w hs
  rw [← partsB_len] at S
  replace S := Lib.hid S
  clear hm
  go_enter Tryd.func17, Tryd.ntmps17
  go_wp2_with (go_at_call 60; refine S.out.mono ?_; rintro e w1 ⟨rfl, rfl⟩)
  go_ret
  exact ⟨rfl, rfl⟩

theorem member_any (s : ByteArray) (w : World) : Calls Tryd.prog 14 #[.string s] w fun e w' => e = .returned (.bool (memberB s)) ∧ w' = w := by
  by_cases h60 : s.size ≤ 60
  · have P := Lib.hid (part_any s (by omega) w)
    go_enter Tryd.func14, Tryd.ntmps14
    go_wp2_with (go_at_call 56; refine P.out.mono ?_; rintro e w1 ⟨rfl, rfl⟩)
    all_goals
      go_ret
      refine ⟨ret_bool ?_, rfl⟩
      simp_all [memberB]
  · have h60' : decide (s.size ≤ 60) = false := by simpa using h60
    go_enter Tryd.func14, Tryd.ntmps14
    go_wp2_with fail
    all_goals
      go_ret
      refine ⟨ret_bool ?_, rfl⟩
      rw [memberB, h60']
      simp_all

theorem valid1_any (s : ByteArray) (hs : s.size ≤ 4611686018427387904) (w : World) : Calls Tryd.prog 58 #[.string s] w fun e w' => e = .returned (.bool (!partB s)) ∧ w' = w := by
  have P := Lib.hid (part_any s hs w)
  go_enter Tryd.func58, Tryd.ntmps58
  go_wp2_with (go_at_call 56; refine P.out.mono ?_; rintro e w1 ⟨rfl, rfl⟩)
  go_ret
  exact ⟨rfl, rfl⟩

/-- A row of strings that is read. -/
def RdS (w : World) (b o : Nat) (l : List ByteArray) : Prop := ∀ j x, l[j]? = some x → w.cell? ⟨b, o + j, none⟩ = some (.string x)
theorem RdS.below {w w1 : World} {b o : Nat} {l : List ByteArray} (h : RdS w b o l) (hb : Below w.heap.size w w1) : RdS w1 b o l := fun j x hx => bl_cell hb (h j x hx)
theorem RdS.new (w : World) (l : List ByteArray) (t : TypeId) : RdS (w.alloc (.cells (strC l) t)) w.heap.size 0 l := by
  intro j x hx
  rw [Nat.zero_add, cell_new]
  simp [strC, hx]

theorem indexFunc_any (l : List ByteArray) (hl : l.length ≤ 4611686018427387904) (hs : ∀ x ∈ l, x.size ≤ 4611686018427387904) (b o c : Nat) (w : World) (hr : RdS w b o l) :
    Calls Tryd.prog 78 #[.slice (some ⟨b, o, none⟩) l.length c, .func (.func 58) #[] #[]] w fun e w' => (∃ n : Int, e = .returned (.int .i64 n) ∧ decide (0 ≤ n) = !l.all partB) ∧ w' = w := by
  go_enter Tryd.func78, Tryd.ntmps78
  go_wp2
  go_loop [8] (fun i => ∃ k : Nat, k ≤ l.length ∧ i = .int .i64 k ∧ Hid (∀ j, j < k → ∀ x, l[j]? = some x → partB x = true)) (fun i => l.length - (intOf i).toNat)
  case atStart => exact ⟨0, Nat.zero_le _, rfl, fun j hj => absurd hj (by omega)⟩
  case round =>
    obtain ⟨k, hk, rfl, hp⟩ := hrel
    replace hr := Lib.hid hr
    replace hs := Lib.hid hs
    by_cases hlt : k < l.length
    · obtain ⟨x, hx⟩ : ∃ x, l[k]? = some x := ⟨_, List.getElem?_eq_getElem hlt⟩
      have hcell := hr.out k x hx
      have V := Lib.hid (valid1_any x (hs.out x (List.mem_of_getElem? hx)) w)
      replace hx := Lib.hid hx
      go_wp2_with (go_at_call 58; refine V.out.mono ?_; rintro e w1 ⟨rfl, rfl⟩)
      · have hf : partB x = false := by simp_all
        go_ret
        exact ⟨⟨k, rfl, by rw [bad_at l k x hx.out hf]; simp⟩, rfl⟩
      · have hf : partB x = true := by simp_all
        go_round
        case rel => exact ⟨k + 1, by omega, by go_num, fun j hj y hy => by
          by_cases e : j = k
          · subst e
            rw [hx.out] at hy
            cases hy
            exact hf
          · exact hp.out j (by omega) y hy⟩
        case measure => simp [intOf]; omega
    · go_wp2
      go_ret
      exact ⟨⟨-1, rfl, by rw [badFrom_all l k hp.out (by omega)]; rfl⟩, rfl⟩

theorem containsFunc_any (l : List ByteArray) (hl : l.length ≤ 4611686018427387904) (hs : ∀ x ∈ l, x.size ≤ 4611686018427387904) (b o c : Nat) (w : World) (hr : RdS w b o l) :
    Calls Tryd.prog 57 #[.slice (some ⟨b, o, none⟩) l.length c, .func (.func 58) #[] #[]] w fun e w' => e = .returned (.bool (!l.all partB)) ∧ w' = w := by
  have I := Lib.hid (indexFunc_any l hl hs b o c w hr)
  clear hs hr
  go_enter Tryd.func57, Tryd.ntmps57
  go_wp2_with (go_at_call 78; refine I.out.mono ?_; rintro e w1 ⟨⟨n, rfl, hn⟩, rfl⟩; replace hn := Lib.hid hn)
  go_ret
  exact ⟨ret_bool hn.out, rfl⟩

theorem valid_any (s : ByteArray) (w : World) (hm : ML w) : Calls Tryd.prog 15 #[.string s] w fun e w' => e = .returned (.bool (validB s)) ∧ Below w.heap.size w w' := by
  by_cases h60 : s.size ≤ 60
  · have P := Lib.hid (parts_any s (by omega) w hm)
    have hle := partsB_le s
    have C := Lib.hid (containsFunc_any (partsB s) (by omega) (fun x hx => by have := partsB_size s x hx; omega) w.heap.size 0 (partsB s).length _ (RdS.new w (partsB s) 9))
    clear hm
    go_enter Tryd.func15, Tryd.ntmps15
    go_wp2_with (first
      | (go_at_call 17; refine P.out.mono ?_; rintro e w1 ⟨rfl, rfl⟩)
      | (go_at_call 57; refine C.out.mono ?_; rintro e w1 ⟨rfl, rfl⟩))
    go_ret
    exact ⟨ret_bool (by simp [validB, h60]), (Below.refl _ _).alloc (Nat.le_refl _) _⟩
  · have h60' : decide (s.size ≤ 60) = false := by simpa using h60
    clear hm
    go_enter Tryd.func15, Tryd.ntmps15
    go_wp2_with fail
    go_ret
    exact ⟨ret_bool (by rw [validB, h60']; rfl), Below.refl _ _⟩

/-- The place of the last slash, or -1. -/
def slash (s : ByteArray) : Int := Lib.lastIndexByte s 47
theorem slash_bd (s : ByteArray) : -1 ≤ slash s ∧ slash s < s.size := by
  rcases Lib.lastIndexByte_spec s 47 with ⟨h, _⟩ | ⟨i, hi, h, _⟩
  · unfold slash; omega
  · unfold slash; omega
def pkgB (s : ByteArray) : ByteArray := s.extract 0 (max 0 (slash s)).toNat
def simpleB (s : ByteArray) : ByteArray := s.extract (slash s + 1).toNat s.size
theorem package_any (s : ByteArray) (hs : s.size < 4611686018427387904) (w : World) : Calls Tryd.prog 16 #[.string s] w fun e w' => e = .returned (.string (pkgB s)) ∧ w' = w := by
  have L : Calls Tryd.prog 59 #[.string s, .int .u8 47] w fun e w' => e = .returned (.int .i64 (slash s)) ∧ w' = w := Tryd.strings_LastIndexByte s 47 hs w
  replace L := Lib.hid L
  have hb := slash_bd s
  have hfin : pkgB s = s.extract 0 (max 0 (slash s)).toNat := rfl
  generalize slash s = i at *
  have hb2 : 0 ≤ max 0 i ∧ max 0 i ≤ (s.size : Int) := by omega
  replace hfin := Lib.hid hfin
  go_enter Tryd.func16, Tryd.ntmps16
  go_wp2_with (go_at_call 59; refine L.out.mono ?_; rintro e w1 ⟨rfl, rfl⟩)
  go_ret
  exact ⟨by rw [hfin.out]; rfl, rfl⟩
end Go.Proofs.YtpcdfjifhoofjaaDoor.Nm

/- Types as they are read out of a list of bytes. No program in sight. -/
namespace Go.Proofs.YtpcdfjifhoofjaaDoor.Ty
open Go Go.RowKit Go.Proofs.YtpcdfjifhoofjaaDoor.Nm
set_option linter.unusedVariables false
set_option linter.unusedSimpArgs false

def bs (l : List UInt8) : ByteArray := ⟨l.toArray⟩
theorem mk_size (l : List UInt8) : (bs l).size = l.length := by show l.toArray.size = _; simp
theorem mk_toList (l : List UInt8) : (bs l).data.toList = l := by simp [bs]
theorem mk_data (s : ByteArray) : bs s.data.toList = s := by cases s; simp [bs]

/-- How many '[' a text begins with, and what is behind them. -/
def opens : List UInt8 → Nat
  | [] => 0
  | x :: l => if x = 91 then opens l + 1 else 0
def past : List UInt8 → List UInt8
  | [] => []
  | x :: l => if x = 91 then past l else x :: l
/-- Up to the first ';', and behind it. -/
def upTo : List UInt8 → List UInt8
  | [] => []
  | x :: l => if x = 59 then [] else x :: upTo l
def behind : List UInt8 → Option (List UInt8)
  | [] => none
  | x :: l => if x = 59 then some l else behind l

/-- A type read from a text: its dimensions, its name, what is behind it (none: there is no type). -/
structure Rd where
  dims : Nat
  name : List UInt8
  rest : Option (List UInt8)
def rd (l : List UInt8) : Rd :=
  match past l with
  | [] => ⟨opens l, [], none⟩
  | x :: r =>
    if x = 73 then ⟨opens l, [], some r⟩
    else if x = 76 then
      ⟨opens l, upTo r, if validB (bs (upTo r)) then behind r else none⟩
    else ⟨opens l, [], none⟩
theorem past_opens (l : List UInt8) : opens l + (past l).length = l.length := by
  induction l with
  | nil => rfl
  | cons x l ih => rw [opens, past]; split <;> simp; omega
theorem behind_len (l r : List UInt8) (h : behind l = some r) : r.length < l.length := by
  induction l with
  | nil => cases h
  | cons x l ih =>
    rw [behind] at h
    split at h
    · cases h; simp
    · have := ih h; simp; omega
theorem rd_len (l r : List UInt8) (h : (rd l).rest = some r) : (rd l).dims + r.length < l.length := by
  have hp := past_opens l
  revert h
  rw [rd]
  split
  · intro h; cases h
  · rename_i x q hq
    rw [hq] at hp
    simp only [List.length_cons] at hp
    split
    · intro h; cases h; show opens l + _ < _; omega
    · split
      · intro h
        simp only at h
        split at h
        · have := behind_len _ _ h; show opens l + _ < _; omega
        · cases h
      · intro h; cases h
theorem opens_le (l : List UInt8) : opens l ≤ l.length := by have := past_opens l; omega
theorem past_not (l : List UInt8) : ∀ r, past l ≠ 91 :: r := by
  induction l with
  | nil => intro r h; cases h
  | cons x l ih =>
    intro r h
    rw [past] at h
    split at h
    · exact ih r h
    · rename_i hx; cases h; exact hx rfl
theorem past_self (q : List UInt8) (h : ∀ r, q ≠ 91 :: r) : past q = q ∧ opens q = 0 := by
  cases q with
  | nil => exact ⟨rfl, rfl⟩
  | cons x r =>
    have hx : x ≠ 91 := fun e => h r (by rw [e])
    simp [past, opens, hx]
theorem index59 (l : List UInt8) : (behind l = none ∧ Lib.index l [59] = -1 ∧ upTo l = l) ∨ (∃ n : Nat, Lib.index l [59] = n ∧ upTo l = l.take n ∧ behind l = some (l.drop (n + 1))) := by
  induction l with
  | nil => exact .inl ⟨rfl, rfl, rfl⟩
  | cons x l ih =>
    by_cases hx : x = 59
    · subst hx
      refine .inr ⟨0, ?_, rfl, rfl⟩
      simp [Lib.index, List.isPrefixOf]
    · have hp : ([59] : List UInt8).isPrefixOf (x :: l) = false := by simp [List.isPrefixOf, Ne.symm hx]
      rcases ih with ⟨h1, h2, h3⟩ | ⟨n, h1, h2, h3⟩
      · left
        simp [behind, upTo, Lib.index, hx, hp, h1, h2, h3]
      · right
        refine ⟨n + 1, ?_, ?_, ?_⟩
        · rw [Lib.index, if_neg (by simp [hp]), h1]
          have : ((n : Int) == -1) = false := beq_eq_false_iff_ne.2 (by omega)
          simp [this]
        · simp [upTo, hx, h2]
        · simp [behind, hx, h3]
theorem cut59 (l : List UInt8) : Lib.cut l [59] = (upTo l, (behind l).getD [], (behind l).isSome) := by
  rcases index59 l with ⟨h1, h2, h3⟩ | ⟨n, h1, h2, h3⟩
  · simp [Lib.cut, h1, h2, h3]
  · rw [Lib.cut, h1, if_pos (by omega), h2, h3]
    simp
theorem u8_ne {x : UInt8} {n : Nat} (h : n < 256) (hx : (x.toNat : Int) = n) : x = UInt8.ofNat n := by
  apply UInt8.toNat_inj.1
  simp
  omega
end Go.Proofs.YtpcdfjifhoofjaaDoor.Ty

/- The walks of types.take and one. -/
namespace Go.Proofs.YtpcdfjifhoofjaaDoor.Ty
open Go Go.RowKit Go.Proofs.YtpcdfjifhoofjaaDoor.Nm
set_option linter.unusedVariables false
set_option linter.unusedSimpArgs false
set_option maxHeartbeats 1000000

/-- A cursor in block b: what is left, and whether a type was too wide. -/
structure Cur (w : World) (b : Nat) (l : List UInt8) (wide : Bool) : Prop where
  c0 : w.cell? ⟨b, 0, none⟩ = some (.string (bs l))
  c1 : w.cell? ⟨b, 1, none⟩ = some (.bool wide)
  f0 : w.frozen? ⟨b, 0, none⟩ = false
  f1 : w.frozen? ⟨b, 1, none⟩ = false

def took (l : List UInt8) (c : UInt8) : Bool := l.head? == some c

theorem take_empty (b : Nat) (wide : Bool) (c : UInt8) (w : World) (h : Cur w b [] wide) : Calls Tryd.prog 68 #[.pointer (some ⟨b, 0, none⟩), .int .u8 (c.toNat : Int)] w fun e w' => e = .returned (.bool false) ∧ w' = w := by
  have h0 := h.c0
  have hmk : bs [] = ⟨#[]⟩ := rfl
  rw [hmk] at h0
  go_enter Tryd.func68, Tryd.ntmps68
  go_wp2
  go_ret
  exact ⟨rfl, rfl⟩

theorem take_cons (b : Nat) (x : UInt8) (l : List UInt8) (hl : l.length < 4294967281) (wide : Bool) (c : UInt8) (w : World) (h : Cur w b (x :: l) wide) : Calls Tryd.prog 68 #[.pointer (some ⟨b, 0, none⟩), .int .u8 (c.toNat : Int)] w fun e w' => e = .returned (.bool (decide (x = c))) ∧ w' = if x = c then w.setCell ⟨b, 0, none⟩ (.string (bs l)) else w := by
  have h0 := h.c0
  have h1 := h.f0
  have hne : ¬ (bs (x :: l)).toList = [] := by
    rw [ByteArray.toList_eq]
    simp [bs]
  have hie : (bs (x :: l)).toList.isEmpty = false := by
    rw [ByteArray.toList_eq]
    simp [bs]
  have hz := mk_size (x :: l)
  have hx : bt (bs (x :: l)) 0 = (x.toNat : Int) := by simp [bt, bs]
  have ht : ∀ h : 0 < (bs (x :: l)).size, (((bs (x :: l))[0]'h).toNat : Int) = x.toNat := fun h => (bt_at _ _ h).trans hx
  have hs : (bs (x :: l)).extract 1 (bs (x :: l)).size = bs l := by
    apply bytes_inj
    rw [ex_data]
    rw [mk_toList, mk_toList, mk_size]
    simp
  simp only [List.length_cons] at hz
  have hr : 0 ≤ (x.toNat : Int) ∧ (x.toNat : Int) ≤ 255 := by have := x.toNat_lt; omega
  have hcr : 0 ≤ (c.toNat : Int) ∧ (c.toNat : Int) ≤ 255 := by have := c.toNat_lt; omega
  clear hx h
  generalize bs (x :: l) = s at *
  go_enter Tryd.func68, Tryd.ntmps68
  have hsz : s.extract 1 (l.length + 1) = bs l := by rw [← hz, hs]
  by_cases hc : x = c
  · subst hc
    go_wp2
    all_goals go_ret
    all_goals simp_all
  · have hc2 : ¬ (x.toNat : Int) = (c.toNat : Int) := fun h => hc (UInt8.toNat_inj.1 (by omega))
    go_wp2
    all_goals go_ret
    all_goals simp_all
theorem gb_set (w : World) (b k : Nat) (v : Value) : w.grownBy (w.setCell ⟨b, k, none⟩ v) (some b) :=
  ⟨rfl, rfl, rfl, (KeepsWalks.setCell w _ v).size, fun j _ hk => Below.heap_setCell _ _ _ j (fun e => hk (by rw [e]))⟩
theorem Cur.lt {w : World} {b : Nat} {l : List UInt8} {wd : Bool} (h : Cur w b l wd) : b < w.heap.size := World.block_lt_of_cell? w _ h.c0
theorem Cur.kept {w w' : World} {b : Nat} {l : List UInt8} {wd : Bool} (h : Cur w b l wd) {row : Option Nat} (hg : w.grownBy w' row) (hne : some b ≠ row) : Cur w' b l wd :=
  ⟨(hg.cell_far _ h.lt hne).trans h.c0, (hg.cell_far _ h.lt hne).trans h.c1, (hg.frozen_far _ h.lt hne).trans h.f0, (hg.frozen_far _ h.lt hne).trans h.f1⟩
theorem Cur.set0 {w : World} {b : Nat} {l : List UInt8} {wd : Bool} (h : Cur w b l wd) (q : List UInt8) : Cur (w.setCell ⟨b, 0, none⟩ (.string (bs q))) b q wd := by
  have := h.c0
  have := h.c1
  have := h.f0
  have := h.f1
  constructor <;> simp_all [World.cell?_setCell_same, World.cell?_setCell_other, World.frozen?_setCell]
theorem Cur.set1 {w : World} {b : Nat} {l : List UInt8} {wd : Bool} (h : Cur w b l wd) (q : Bool) : Cur (w.setCell ⟨b, 1, none⟩ (.bool q)) b l q := by
  have := h.c0
  have := h.c1
  have := h.f0
  have := h.f1
  constructor <;> simp_all [World.cell?_setCell_same, World.cell?_setCell_other, World.frozen?_setCell]

def left (l : List UInt8) (c : UInt8) : List UInt8 := if took l c = true then l.tail else l
theorem take_any (b : Nat) (l : List UInt8) (hl : l.length < 4294967281) (wide : Bool) (c : UInt8) (w : World) (h : Cur w b l wide) : Calls Tryd.prog 68 #[.pointer (some ⟨b, 0, none⟩), .int .u8 (c.toNat : Int)] w fun e w' => e = .returned (.bool (took l c)) ∧ Cur w' b (left l c) wide ∧ w.grownBy w' (some b) := by
  cases l with
  | nil =>
    refine (take_empty b wide c w h).mono ?_
    rintro e w1 ⟨rfl, rfl⟩
    exact ⟨rfl, h, World.grownBy.refl _ _⟩
  | cons x l =>
    refine (take_cons b x l (by simp at hl; omega) wide c w h).mono ?_
    rintro e w1 ⟨rfl, rfl⟩
    by_cases hx : x = c
    · subst hx
      have : took (x :: l) x = true := by simp [took]
      rw [left, this]
      simp only [decide_true, if_true, List.tail]
      exact ⟨trivial, h.set0 _, gb_set _ _ _ _⟩
    · have : took (x :: l) c = false := by simp [took, hx]
      rw [left, this]
      simp only [hx, decide_false, if_false, Bool.false_eq_true]
      exact ⟨trivial, h, World.grownBy.refl _ _⟩
end Go.Proofs.YtpcdfjifhoofjaaDoor.Ty

/- The walk of types.one: a type is read. -/
namespace Go.Proofs.YtpcdfjifhoofjaaDoor.Ty
open Go Go.RowKit Go.Proofs.YtpcdfjifhoofjaaDoor.Nm
set_option linter.unusedVariables false
set_option linter.unusedSimpArgs false
set_option maxHeartbeats 1000000

/-- A type in block B: its dimensions, its name. -/
structure Two (w : World) (B : Nat) (k : Int) (nm : ByteArray) : Prop where
  c0 : w.cell? ⟨B, 0, none⟩ = some (.int .i64 k)
  c1 : w.cell? ⟨B, 1, none⟩ = some (.string nm)
  f0 : w.frozen? ⟨B, 0, none⟩ = false
  f1 : w.frozen? ⟨B, 1, none⟩ = false
theorem Two.lt {w : World} {b : Nat} {l : Int} {wd : ByteArray} (h : Two w b l wd) : b < w.heap.size := World.block_lt_of_cell? w _ h.c0
theorem Two.kept {w w' : World} {b : Nat} {l : Int} {wd : ByteArray} (h : Two w b l wd) {row : Option Nat} (hg : w.grownBy w' row) (hne : some b ≠ row) : Two w' b l wd :=
  ⟨(hg.cell_far _ h.lt hne).trans h.c0, (hg.cell_far _ h.lt hne).trans h.c1, (hg.frozen_far _ h.lt hne).trans h.f0, (hg.frozen_far _ h.lt hne).trans h.f1⟩
theorem Two.drew {w : World} {b : Nat} {l : Int} {wd : ByteArray} (h : Two w b l wd) : Two w.drew b l wd := ⟨h.c0, h.c1, h.f0, h.f1⟩
theorem Cur.drew {w : World} {b : Nat} {l : List UInt8} {wd : Bool} (h : Cur w b l wd) : Cur w.drew b l wd := ⟨h.c0, h.c1, h.f0, h.f1⟩
theorem gb_drew {w w1 : World} {row : Option Nat} (h : w.grownBy w1 row) : w.grownBy w1.drew row := ⟨h.os, h.tape, h.output, h.size, h.block⟩
theorem Two.set0 {w : World} {b : Nat} {l : Int} {wd : ByteArray} (h : Two w b l wd) (q : Int) : Two (w.setCell ⟨b, 0, none⟩ (.int .i64 q)) b q wd := by
  have := h.c0
  have := h.c1
  have := h.f0
  have := h.f1
  constructor <;> simp_all [World.cell?_setCell_same, World.cell?_setCell_other, World.frozen?_setCell]
theorem Two.set1 {w : World} {b : Nat} {l : Int} {wd : ByteArray} (h : Two w b l wd) (q : ByteArray) : Two (w.setCell ⟨b, 1, none⟩ (.string q)) b l q := by
  have := h.c0
  have := h.c1
  have := h.f0
  have := h.f1
  constructor <;> simp_all [World.cell?_setCell_same, World.cell?_setCell_other, World.frozen?_setCell]
theorem Two.new (w : World) (k : Int) (nm : ByteArray) (t : TypeId) : Two (w.alloc (.cells #[.int .i64 k, .string nm] t)) w.heap.size k nm := by
  constructor
  · rw [cell_new]; rfl
  · rw [cell_new]; rfl
  · unfold World.frozen?; rw [heap_alloc_new]; rfl
  · unfold World.frozen?; rw [heap_alloc_new]; rfl

theorem gb_new {w w1 : World} {b : Nat} (h : w.grownBy w1 (some b)) (j : Nat) (v : Value) : w.grownBy (w1.setCell ⟨w.heap.size, j, none⟩ v) (some b) :=
  h.andThen (gb_set _ _ _ _) (fun j hj => .inl (by cases hj; exact Nat.le_refl _))
theorem gb_below {w w1 : World} (h : Below w.heap.size w w1) : w.grownBy w1 none := ⟨h.os, h.tape, h.output, h.size, fun k hk _ => h.block k hk⟩
theorem gb_none {w w1 : World} (h : w.grownBy w1 none) : Below w.heap.size w w1 := ⟨h.os, h.tape, h.output, h.size, fun k hk => h.block k hk (by simp)⟩
theorem gb_weak {w w1 : World} (h : w.grownBy w1 none) (row : Option Nat) : w.grownBy w1 row := ⟨h.os, h.tape, h.output, h.size, fun k hk _ => h.block k hk (by simp)⟩
theorem ml_kept {w w1 : World} (_ : ML w) {b : Nat} {l : List UInt8} {wd : Bool} (_ : Cur w b l wd) (_ : w.grownBy w1 (some b)) : ML w1 := trivial
theorem cut_any (r : List UInt8) (hr : r.length < 4294967281) (w : World) (hm : ML w) : Calls Tryd.prog 84 #[.string (bs r), .string ⟨#[59]⟩] w fun e w' => e = .returned (.tuple #[.string (bs (upTo r)), .string (bs ((behind r).getD [])), .bool (behind r).isSome]) ∧ w.grownBy w' none := by
  refine (Lib1.cut1 Tryd.lays145 (bs r) 59 w (by rw [mk_size]; exact hr)).mono ?_
  rintro e w1 ⟨rfl, n, rfl⟩
  rw [mk_toList, cut59]
  exact ⟨rfl, ⟨rfl, rfl, rfl, Nat.le_refl _, fun _ _ _ => rfl⟩⟩

theorem one_any (b : Nat) (l : List UInt8) (hl : l.length < 4294967281) (wide : Bool) (w : World) (h : Cur w b l wide) (hm : ML w) : Calls Tryd.prog 65 #[.pointer (some ⟨b, 0, none⟩)] w fun e w' =>
    ∃ d nm, e = .returned (.tuple #[.agg #[.int .i64 d, .string nm], .bool (rd l).rest.isSome]) ∧ w.grownBy w' (some b) ∧ (∀ r, (rd l).rest = some r → d = (rd l).dims ∧ nm = bs (rd l).name ∧ Cur w' b r (wide || decide (255 < (rd l).dims))) := by
  have hb := h.lt
  go_enter Tryd.func65, Tryd.ntmps65
  go_wp2
  go_loopg [] l.length (fun g wr => ∃ (k : Nat) (q : List UInt8), g = q.length ∧ q.length + k = l.length ∧ opens q + k = opens l ∧ past q = past l ∧ Cur wr b q wide ∧ Two wr w.heap.size k ⟨#[]⟩ ∧ w.grownBy wr (some b))
  case atStart => exact ⟨0, l, rfl, by omega, by omega, rfl, h.kept (World.grownBy_alloc _ _ none) (by simp), Two.new _ _ _ _, World.grownBy_alloc _ _ _⟩
  case round =>
    obtain ⟨k, q, hg, hlen, hop, hpa, hC, hT, hgr⟩ := hrel
    have hq : q.length < 4294967281 := by omega
    have hopl := opens_le l
    have hne : some w.heap.size ≠ some b := by intro e; injection e with e; omega
    replace hne := Lib.hid hne
    replace hop := Lib.hid hop
    replace hpa := Lib.hid hpa
    go_wp2_with fail
    refine (take_any b q hq wide 91 _ hC).mono ?_
    rintro e w1 ⟨rfl, hC1, hg1⟩
    replace hT := hT.kept hg1 hne.out
    replace hgr := hgr.trans hg1
    clear hC hg1
    replace hC1 := Lib.hid hC1
    replace hgr := Lib.hid hgr
    cases ht : took q 91
    · have hnq : ∀ r, q ≠ 91 :: r := by rintro r rfl; simp [took] at ht
      have hself := past_self q hnq
      have hpq : past l = q := by rw [← hpa.out, hself.1]
      have hk : k = opens l := by have := hop.out; rw [hself.2] at this; omega
      have hC2 : Cur w1 b q wide := by have := hC1.out; rwa [left, ht] at this
      have h1 := hT.c0
      have h2 := hC2.c1
      have h3 := hC2.f1
      clear hC1 hop hpa hself
      replace hT := Lib.hid hT
      replace hC2 := Lib.hid hC2
      replace hpq := Lib.hid hpq
      replace hk := Lib.hid hk
      replace hnq := Lib.hid hnq
      go_upto_region 3 with fail
      go_cut [3] (fun v3 wc => v3 = .bool false ∧ Cur wc b q (wide || decide (255 < k)) ∧ Two wc w.heap.size k ⟨#[]⟩ ∧ w.grownBy wc (some b))
      case first =>
        go_wp2
        all_goals
          go_meet
          case rel =>
            refine ⟨rfl, ?_, hT.out.kept (gb_set _ _ _ _) hne.out, hgr.out.trans (gb_set _ _ _ _)⟩
            have := hC2.out.set1 (wide || decide (255 < k))
            have hdd : decide (255 < (k : Int)) = decide (255 < k) := decide_eq_decide.2 (by omega)
            simp_all
      case rest =>
        obtain ⟨rfl, hC3, hT3, hg3⟩ := hcut
        clear hT hC2 hgr h1 h2 h3
        generalize hwd : (wide || decide (255 < k)) = wd at *
        replace hwd := Lib.hid hwd
        go_wp2_with fail
        refine (take_any b q hq _ 73 _ hC3).mono ?_
        rintro e w4 ⟨rfl, hC4, hg4⟩
        replace hT3 := hT3.kept hg4 hne.out
        replace hg3 := hg3.trans hg4
        clear hC3 hg4
        replace hC4 := Lib.hid hC4
        replace hg3 := Lib.hid hg3
        cases t73 : took q 73
        · have hC5 : Cur w4 b q wd := by have := hC4.out; rwa [left, t73] at this
          clear hC4
          go_wp2_with fail
          refine (take_any b q hq _ 76 _ hC5).mono ?_
          rintro e w5 ⟨rfl, hC6, hg6⟩
          replace hT3 := hT3.kept hg6 hne.out
          replace hg3 := hg3.out.trans hg6
          clear hC5 hg6
          replace hC6 := Lib.hid hC6
          replace hg3 := Lib.hid hg3
          cases t76 : took q 76
          · have hrd : rd l = ⟨k, [], none⟩ := by
              rw [rd, hpq.out]
              cases q with
              | nil => simp [hk.out]
              | cons x r =>
                have n1 : x ≠ 73 := by rintro rfl; simp [took] at t73
                have n2 : x ≠ 76 := by rintro rfl; simp [took] at t76
                simp [hk.out, n1, n2]
            have h1 := hT3.c0
            have h2 := hT3.c1
            have h3 := hT3.f0
            have h4 := hT3.f1
            replace hT3 := Lib.hid hT3
            replace hrd := Lib.hid hrd
            clear hpq hk
            go_wp2
            have T5 := (hT3.out.set0 k).set1 ⟨#[]⟩
            refine bodyPost_ret (v := .tuple #[.agg #[.int .i64 k, .string ⟨#[]⟩], .bool false]) (by simp [results, Tryd.results65, go_sem, T5.c0, T5.c1]) rfl ⟨k, ⟨#[]⟩, ?_, gb_new (gb_new hg3.out _ _) _ _, ?_⟩
            · rw [hrd.out]; rfl
            · intro r1 hr1
              rw [hrd.out] at hr1
              cases hr1
          · obtain ⟨r, rfl⟩ : ∃ r, q = 76 :: r := by
              cases q with
              | nil => simp [took] at t76
              | cons x r => simp [took] at t76; exact ⟨r, by rw [t76]⟩
            have hC7 : Cur w5 b r wd := by have := hC6.out; rwa [left, t76] at this
            have hM5 : ML w5 := ml_kept hm h hg3.out
            have hrd : rd l = ⟨k, upTo r, if validB (bs (upTo r)) then behind r else none⟩ := by rw [rd, hpq.out]; simp [hk.out]
            simp only [List.length_cons] at hq hlen
            clear hC6 hpq hk
            have p1 := hC7.c0
            go_wp2_with fail
            refine (cut_any r (by omega) _ hM5).mono ?_
            rintro e w6 ⟨rfl, hg7⟩
            replace hT3 := hT3.kept hg7 (by simp)
            replace hC7 := hC7.kept hg7 (by simp)
            replace hg3 := Lib.hid (hg3.out.trans (gb_weak hg7 _))
            have hM6 := hM5.below (gb_none hg7)
            clear hM5 hg7 p1
            have h1 := hT3.c0
            have h2 := hT3.c1
            have h3 := hT3.f0
            have h4 := hT3.f1
            have h5 := hC7.c0
            have h6 := hC7.f0
            replace hT3 := Lib.hid hT3
            replace hC7 := Lib.hid hC7
            replace hM6 := Lib.hid hM6
            replace hrd := Lib.hid hrd
            have hne2 : w.heap.size ≠ b := fun e => hne.out (by rw [e])
            go_upto_region 9 with fail
            have T9 := (hT3.out.set1 (bs (upTo r))).kept (gb_set _ b 0 (.string (bs ((behind r).getD [])))) hne.out
            have C9 := (hC7.out.kept (gb_set _ w.heap.size 1 (.string (bs (upTo r)))) (Ne.symm hne.out)).set0 ((behind r).getD [])
            have G9 := (gb_new hg3.out 1 (.string (bs (upTo r)))).trans (gb_set _ b 0 (.string (bs ((behind r).getD []))))
            clear h1 h2 h3 h4 h5 h6 hT3 hC7 hg3 hM6
            generalize (w6.setCell ⟨w.heap.size, 1, none⟩ (.string (bs (upTo r)))).setCell ⟨b, 0, none⟩ (.string (bs ((behind r).getD []))) = W9 at *
            have M9 : ML W9 := ml_kept hm h G9
            have h1 := T9.c0
            have h2 := T9.c1
            have h3 := T9.f0
            have h4 := T9.f1
            have V := Lib.hid (valid_any (bs (upTo r)) W9.drew M9)
            replace T9 := Lib.hid T9
            replace C9 := Lib.hid C9
            replace G9 := Lib.hid G9
            clear M9
            cases hbr : behind r with
            | none =>
              rw [hbr] at hrd
              have hrd2 : rd l = ⟨k, upTo r, none⟩ := by rw [hrd.out]; simp
              replace hrd2 := Lib.hid hrd2
              clear hrd V
              replace hbr := Lib.hid hbr
              simp only [Option.isSome_none, Option.getD_none]
              go_region
              go_wp2
              have T5 := ((T9.out.set0 k).set1 (bs (upTo r))).drew
              refine bodyPost_ret (v := .tuple #[.agg #[.int .i64 k, .string (bs (upTo r))], .bool false]) (by simp [results, Tryd.results65, go_sem, T5.c0, T5.c1]) rfl ⟨k, bs (upTo r), ?_, gb_drew (gb_new (gb_new G9.out _ _) _ _), ?_⟩
              · rw [hrd2.out]; rfl
              · intro r1 hr1
                rw [hrd2.out] at hr1
                cases hr1
            | some r2 =>
              replace hbr := Lib.hid hbr
              go_region_with (go_at_call 15; refine V.out.mono ?_; rintro e w10 ⟨rfl, hb10⟩; have T10 := T9.out.drew.kept (gb_below hb10) (by simp); have h1' := T10.c0; have h2' := T10.c1; have h3' := T10.f0; have h4' := T10.f1; replace T10 := Lib.hid T10; replace hb10 := Lib.hid hb10)
              all_goals go_wp2
              all_goals
                have T5 := (T10.out.set0 k).set1 (bs (upTo r))
                refine bodyPost_ret (v := .tuple #[.agg #[.int .i64 k, .string (bs (upTo r))], .bool (validB (bs (upTo r)))]) (by simp [results, Tryd.results65, go_sem, T5.c0, T5.c1]) rfl ⟨k, bs (upTo r), ?_, gb_new (gb_new ((gb_drew G9.out).trans (gb_weak (gb_below hb10.out) _)) _ _) _ _, ?_⟩
                · rw [hrd.out, hbr.out]; cases validB (bs (upTo r)) <;> rfl
                · intro r1 hr1
                  have hC := C9.out
                  rw [hbr.out] at hC
                  rw [hrd.out] at hr1 ⊢
                  simp only at hr1
                  split at hr1
                  · rw [hbr.out] at hr1
                    cases hr1
                    refine ⟨rfl, rfl, ?_⟩
                    rw [hwd.out]
                    exact ((hC.drew.kept (gb_below hb10.out) (by simp)).kept (gb_set _ _ _ _) (Ne.symm hne.out)).kept (gb_set _ _ _ _) (Ne.symm hne.out)
                  · cases hr1
        · obtain ⟨r, rfl⟩ : ∃ r, q = 73 :: r := by
            cases q with
            | nil => simp [took] at t73
            | cons x r => simp [took] at t73; exact ⟨r, by rw [t73]⟩
          have h1 := hT3.c0
          have h2 := hT3.c1
          have h3 := hT3.f0
          have h4 := hT3.f1
          replace hT3 := Lib.hid hT3
          have hrd : rd l = ⟨k, [], some r⟩ := by rw [rd, hpq.out]; simp [hk.out]
          replace hrd := Lib.hid hrd
          clear hpq hk
          go_wp2
          have T5 := (hT3.out.set0 k).set1 ⟨#[]⟩
          refine bodyPost_ret (v := .tuple #[.agg #[.int .i64 k, .string ⟨#[]⟩], .bool true]) (by simp [results, Tryd.results65, go_sem, T5.c0, T5.c1]) rfl ⟨k, ⟨#[]⟩, ?_, gb_new (gb_new hg3.out _ _) _ _, ?_⟩
          · rw [hrd.out]; rfl
          · intro r1 hr1
            rw [hrd.out] at hr1 ⊢
            cases hr1
            refine ⟨rfl, rfl, ?_⟩
            have h5 := hC4.out
            rw [left, t73] at h5
            rw [hwd.out]
            exact (h5.kept (gb_set _ _ _ _) (Ne.symm hne.out)).kept (gb_set _ _ _ _) (Ne.symm hne.out)
    · obtain ⟨r, rfl⟩ : ∃ r, q = 91 :: r := by
        cases q with
        | nil => simp [took] at ht
        | cons x r => simp [took] at ht; exact ⟨r, by rw [ht]⟩
      have h1 := hT.c0
      have h2 := hT.f0
      simp only [List.length_cons] at hlen hq
      replace hT := Lib.hid hT
      go_wp2
      go_roundg r.length
      case rel => exact ⟨k + 1, r, rfl, by omega, by have := hop.out; simp [opens] at this; omega, by have := hpa.out; simpa [past] using this, (by have := hC1.out; rw [left, ht] at this; exact this.kept (gb_set _ _ _ _) (Ne.symm hne.out)), by have := hT.out.set0 (k + 1); simpa using this, hgr.out.andThen (gb_set _ _ _ _) (fun j hj => .inl (by cases hj; exact Nat.le_refl _))⟩
      case measure => simp at hg; omega
end Go.Proofs.YtpcdfjifhoofjaaDoor.Ty

/- The walks of types.Parse, ParseRef, Check. -/
namespace Go.Proofs.YtpcdfjifhoofjaaDoor.Ty
open Go Go.RowKit Go.Proofs.YtpcdfjifhoofjaaDoor.Nm
set_option linter.unusedVariables false
set_option linter.unusedSimpArgs false
set_option maxHeartbeats 1000000

/-- What a text of a type says: dimensions, name, error. -/
def parseT (l : List UInt8) : Int × List UInt8 × Int :=
  if 2000 < l.length then (0, [], 5) else
    match (rd l).rest with
    | none => (0, [], 4)
    | some r => if r ≠ [] then (0, [], 4) else if 255 < (rd l).dims then (0, [], 5) else ((rd l).dims, (rd l).name, 0)
def tyV (d : Int) (nm : List UInt8) : Value := .agg #[.int .i64 d, .string (bs nm)]
theorem bs_nil : bs [] = ⟨#[]⟩ := rfl

theorem Cur.new (w : World) (l : List UInt8) (wd : Bool) (t : TypeId) : Cur (w.alloc (.cells #[.string (bs l), .bool wd] t)) w.heap.size l wd := by
  constructor
  · rw [cell_new]; rfl
  · rw [cell_new]; rfl
  · unfold World.frozen?; rw [heap_alloc_new]; rfl
  · unfold World.frozen?; rw [heap_alloc_new]; rfl
theorem ml_alloc {w : World} (h : ML w) (o : Obj) : ML (w.alloc o) := h.below (gb_none (World.grownBy_alloc w o none))

theorem parse_any (l : List UInt8) (w : World) (hm : ML w) : Calls Tryd.prog 26 #[.string (bs l)] w fun e w' =>
    e = .returned (.tuple #[tyV (parseT l).1 (parseT l).2.1, .int .i64 (parseT l).2.2]) ∧ Below w.heap.size w w' := by
  have hz := mk_size l
  have hzl : ((bs l).size : Int) = l.length := by rw [hz]
  clear hz
  have T0 := Two.new w 0 ⟨#[]⟩ 37
  have HM := Lib.hid hm
  by_cases hbig : 2000 < l.length
  · have hp : parseT l = (0, [], 5) := by simp [parseT, hbig]
    rw [hp]
    replace hp := Lib.hid hp
    replace T0 := Lib.hid T0
    go_enter Tryd.func26, Tryd.ntmps26
    go_wp2
    refine bodyPost_ret (v := .tuple #[tyV 0 [], .int .i64 5]) (by simp [results, Tryd.results26, go_sem, tyV, bs_nil]) rfl ⟨rfl, ?_⟩
    have B0 := Below.refl w.heap.size w
    repeat' (first | assumption | apply Below.setCell | apply Below.alloc | apply Below.drew)
    all_goals (first | omega | (simp; done) | (simp; omega))
  · have hp : parseT l = match (rd l).rest with
      | none => (0, [], 4)
      | some r => if r ≠ [] then (0, [], 4) else if 255 < (rd l).dims then (0, [], 5) else ((rd l).dims, (rd l).name, 0) := by rw [parseT, if_neg hbig]
    replace hp := Lib.hid hp
    have hsm : (l.length : Int) ≤ 2000 := by omega
    have C0 := Cur.new (w.alloc (.cells #[.int .i64 0, .string ⟨#[]⟩] 37)) l false 67
    have M0 := ml_alloc (ml_alloc hm (.cells #[.int .i64 0, .string ⟨#[]⟩] 37)) (.cells #[.string (bs l), .bool false] 67)
    have T1 := T0.kept (World.grownBy_alloc _ (.cells #[.string (bs l), .bool false] 67) none) (by simp)
    have hz2 : (w.alloc (.cells #[.int .i64 0, .string ⟨#[]⟩] 37)).heap.size = w.heap.size + 1 := by simp
    rw [hz2] at C0
    have O := Lib.hid (one_any (w.heap.size + 1) l (by omega) false _ C0 M0)
    have B0 : Below w.heap.size w ((w.alloc (.cells #[.int .i64 0, .string ⟨#[]⟩] 37)).alloc (.cells #[.string (bs l), .bool false] 67)) := ((Below.refl _ _).alloc (Nat.le_refl _) _).alloc (by simp) _
    replace T1 := Lib.hid T1
    replace B0 := Lib.hid B0
    clear T0 C0 M0 hm hz2
    go_enter Tryd.func26, Tryd.ntmps26
    go_wp2_with fail
    refine O.out.mono ?_
    rintro e w3 ⟨d, nm, rfl, hg, hsome⟩
    have T3 := T1.out.kept hg (by simp)
    have B3 := B0.out.grown hg (by simp; omega) (by simp)
    have hsz := B3.size
    have hlt := T3.lt
    clear T1 B0 O hg
    have f0 := T3.f0
    have h1 := T3.c0
    have h2 := T3.c1
    have f1 := T3.f1
    replace T3 := Lib.hid T3
    replace hsome := Lib.hid hsome
    cases hr : (rd l).rest with
    | none =>
      rw [hr] at hp
      have hp2 : parseT l = (0, [], 4) := hp.out
      replace hp2 := Lib.hid hp2
      clear hsome hp
      go_wp2
      have T5 := ((T3.out.set0 0).set1 ⟨#[]⟩).kept (World.grownBy_alloc _ (.cells #[.int .i64 d, .string nm] 37) none) (by simp)
      refine bodyPost_ret (v := .tuple #[tyV 0 [], .int .i64 4]) (by simp [results, Tryd.results26, go_sem, tyV, bs_nil, T5.c0, T5.c1]) rfl ⟨by rw [hp2.out], ?_⟩
      repeat' (first | assumption | apply Below.setCell | apply Below.alloc | apply Below.drew)
      all_goals (first | omega | (simp; done) | (simp; omega))
    | some r =>
      obtain ⟨rfl, rfl, hC⟩ := hsome.out r hr
      rw [hr] at hp
      have q0 := hC.c0
      have q1 := hC.c1
      have hlt2 := hC.lt
      have hdr : ((rd l).dims : Int) ≤ 4294967281 := by have := rd_len l r hr; omega
      clear hsome
      replace hC := Lib.hid hC
      generalize (rd l).dims = k at *
      generalize (rd l).name = nm at *
      rw [Bool.false_or] at q1
      cases r with
      | nil =>
        rw [bs_nil] at q0
        by_cases hk : 255 < k
        · have hp2 : parseT l = (0, [], 5) := by rw [hp.out]; simp [hk]
          replace hp2 := Lib.hid hp2
          simp only [hk, decide_true] at q1
          clear hp
          go_wp2
          have T5 := ((T3.out.set0 0).set1 ⟨#[]⟩).kept (World.grownBy_alloc _ (.cells #[.int .i64 k, .string (bs nm)] 37) none) (by simp)
          refine bodyPost_ret (v := .tuple #[tyV 0 [], .int .i64 5]) (by simp [results, Tryd.results26, go_sem, tyV, bs_nil, T5.c0, T5.c1]) rfl ⟨by rw [hp2.out], ?_⟩
          repeat' (first | assumption | apply Below.setCell | apply Below.alloc | apply Below.drew)
          all_goals (first | omega | (simp; done) | (simp; omega))
        · have hp2 : parseT l = ((k : Int), nm, 0) := by rw [hp.out]; simp [hk]
          replace hp2 := Lib.hid hp2
          simp only [hk, decide_false] at q1
          clear hp
          go_wp2
          have T5 := ((T3.out.set0 k).set1 (bs nm)).kept (World.grownBy_alloc _ (.cells #[.int .i64 k, .string (bs nm)] 37) none) (by simp)
          refine bodyPost_ret (v := .tuple #[tyV k nm, .int .i64 0]) (by simp [results, Tryd.results26, go_sem, tyV, bs_nil, T5.c0, T5.c1]) rfl ⟨by rw [hp2.out], ?_⟩
          repeat' (first | assumption | apply Below.setCell | apply Below.alloc | apply Below.drew)
          all_goals (first | omega | (simp; done) | (simp; omega))
      | cons x r =>
        have hp2 : parseT l = (0, [], 4) := by rw [hp.out]; simp
        replace hp2 := Lib.hid hp2
        have hne : ¬ (bs (x :: r)).toList = [] := by
          rw [ByteArray.toList_eq]
          simp [bs]
        have hie : (bs (x :: r)).toList.isEmpty = false := by
          rw [ByteArray.toList_eq]
          simp [bs]
        generalize bs (x :: r) = sr at *
        clear hp
        go_wp2
        have T5 := ((T3.out.set0 0).set1 ⟨#[]⟩).kept (World.grownBy_alloc _ (.cells #[.int .i64 k, .string (bs nm)] 37) none) (by simp)
        refine bodyPost_ret (v := .tuple #[tyV 0 [], .int .i64 4]) (by simp [results, Tryd.results26, go_sem, tyV, bs_nil, T5.c0, T5.c1]) rfl ⟨by rw [hp2.out], ?_⟩
        repeat' (first | assumption | apply Below.setCell | apply Below.alloc | apply Below.drew)
        all_goals (first | omega | (simp; done) | (simp; omega))
end Go.Proofs.YtpcdfjifhoofjaaDoor.Ty

/- The walks of ParseRef, the program's and the reference's; awake. -/
namespace Go.Proofs.YtpcdfjifhoofjaaDoor.Ty
open Go Go.RowKit Go.Proofs.YtpcdfjifhoofjaaDoor.Nm
set_option linter.unusedVariables false
set_option linter.unusedSimpArgs false
set_option maxHeartbeats 1000000
set_option maxRecDepth 10000

def brk (l : List UInt8) : Bool := took l 91
def parseR (l : List UInt8) : Int × List UInt8 × Int :=
  if 2000 < l.length then (0, [], 5) else if brk l then parseT l else if validB (bs l) then (0, l, 0) else (0, [], 4)
theorem parseT_big (l : List UInt8) (h : 2000 < l.length) : parseT l = (0, [], 5) := by rw [parseT, if_pos h]

theorem prefix_any (l : List UInt8) (w : World) : Calls Tryd.prog 67 #[.string (bs l), .string ⟨#[91]⟩] w fun e w' => e = .returned (.bool (brk l)) ∧ w' = w := by
  refine (Tryd.strings_HasPrefix (bs l) ⟨#[91]⟩ w).mono ?_
  rintro e w1 ⟨rfl, rfl⟩
  refine ⟨ret_bool ?_, rfl⟩
  rw [mk_toList]
  cases l with
  | nil => rfl
  | cons x l =>
    have h91 : (⟨#[91]⟩ : ByteArray).data.toList = [91] := rfl
    rw [h91]
    rw [Bool.eq_iff_iff]
    simp [Lib.hasPrefix, brk, took, List.isPrefixOf]
    exact eq_comm

theorem parseref_any (l : List UInt8) (w : World) (hm : ML w) : Calls Tryd.prog 29 #[.string (bs l)] w fun e w' =>
    e = .returned (.tuple #[tyV (parseR l).1 (parseR l).2.1, .int .i64 (parseR l).2.2]) ∧ Below w.heap.size w w' := by
  have hz := mk_size l
  have hzl : ((bs l).size : Int) = l.length := by rw [hz]
  clear hz
  have T0 := Two.new w 0 ⟨#[]⟩ 37
  have M0 := ml_alloc hm (.cells #[.int .i64 0, .string ⟨#[]⟩] 37)
  have B0 : Below w.heap.size w (w.alloc (.cells #[.int .i64 0, .string ⟨#[]⟩] 37)) := (Below.refl _ _).alloc (Nat.le_refl _) _
  have PR : Hid (∀ W, _) := Lib.hid (fun W => prefix_any l W)
  have P := Lib.hid (parse_any l _ M0)
  have V := Lib.hid (valid_any (bs l) _ M0)
  replace T0 := Lib.hid T0
  replace B0 := Lib.hid B0
  clear M0 hm
  cases hb : brk l
  · rw [hb] at PR
    by_cases hbig : 2000 < l.length
    · have hp : parseR l = (0, [], 5) := by simp [parseR, hbig]
      replace hp := Lib.hid hp
      clear P V
      go_enter Tryd.func29, Tryd.ntmps29
      go_wp2_with (go_at_call 67; refine (PR.out _).mono ?_; rintro e w1 ⟨rfl, rfl⟩)
      refine bodyPost_ret (v := .tuple #[tyV 0 [], .int .i64 5]) (by simp [results, Tryd.results29, go_sem, tyV, bs_nil]) rfl ⟨by rw [hp.out], ?_⟩
      have B1 := B0.out
      repeat' (first | assumption | apply Below.setCell | apply Below.alloc | apply Below.drew)
      all_goals (first | omega | (simp; done) | (simp; omega))
    · have hsm : (l.length : Int) ≤ 2000 := by omega
      cases hv : validB (bs l)
      · have hp : parseR l = (0, [], 4) := by simp [parseR, hbig, hb, hv]
        replace hp := Lib.hid hp
        rw [hv] at V
        clear P
        go_enter Tryd.func29, Tryd.ntmps29
        go_wp2_with (go_at_call 67; refine (PR.out _).mono ?_; rintro e w1 ⟨rfl, rfl⟩)
        refine V.out.mono ?_
        rintro e w3 ⟨rfl, hg⟩
        have T3 := T0.out.kept (gb_below hg) (by simp)
        have B3 := B0.out.trans (hg.mono (by simp))
        clear T0 B0 V hg
        have hsz := B3.size
        have f0 := T3.f0
        have h1 := T3.c0
        have h2 := T3.c1
        have f1 := T3.f1
        replace T3 := Lib.hid T3
        go_wp2
        have T5 := (T3.out.set0 0).set1 ⟨#[]⟩
        refine bodyPost_ret (v := .tuple #[tyV 0 [], .int .i64 4]) (by simp [results, Tryd.results29, go_sem, tyV, bs_nil, T5.c0, T5.c1]) rfl ⟨by rw [hp.out], ?_⟩
        repeat' (first | assumption | apply Below.setCell | apply Below.alloc | apply Below.drew)
        all_goals (first | omega | (simp; done) | (simp; omega))
      · have hp : parseR l = (0, l, 0) := by simp [parseR, hbig, hb, hv]
        replace hp := Lib.hid hp
        rw [hv] at V
        clear P
        go_enter Tryd.func29, Tryd.ntmps29
        go_wp2_with (go_at_call 67; refine (PR.out _).mono ?_; rintro e w1 ⟨rfl, rfl⟩)
        refine V.out.mono ?_
        rintro e w3 ⟨rfl, hg⟩
        have T3 := T0.out.kept (gb_below hg) (by simp)
        have B3 := B0.out.trans (hg.mono (by simp))
        clear T0 B0 V hg
        have hsz := B3.size
        have f0 := T3.f0
        have h1 := T3.c0
        have h2 := T3.c1
        have f1 := T3.f1
        replace T3 := Lib.hid T3
        go_wp2
        have T5 := (T3.out.set0 0).set1 (bs l)
        refine bodyPost_ret (v := .tuple #[tyV 0 l, .int .i64 0]) (by simp [results, Tryd.results29, go_sem, tyV, bs_nil, T5.c0, T5.c1]) rfl ⟨by rw [hp.out], ?_⟩
        repeat' (first | assumption | apply Below.setCell | apply Below.alloc | apply Below.drew)
        all_goals (first | omega | (simp; done) | (simp; omega))
  · rw [hb] at PR
    have hp : parseR l = parseT l := by
      rw [parseR]
      split
      · exact (parseT_big l (by assumption)).symm
      · first | rfl | rw [if_pos hb]
    replace hp := Lib.hid hp
    clear V
    obtain ⟨d, nm, er, hpt⟩ : ∃ d nm er, parseT l = (d, nm, er) := ⟨_, _, _, rfl⟩
    rw [hpt] at P
    simp only [tyV] at P
    replace hpt := Lib.hid hpt
    go_enter Tryd.func29, Tryd.ntmps29
    go_wp2_with (go_at_call 67; refine (PR.out _).mono ?_; rintro e w1 ⟨rfl, rfl⟩)
    refine P.out.mono ?_
    rintro e w3 ⟨rfl, hg⟩
    have T3 := T0.out.kept (gb_below hg) (by simp)
    have B3 := B0.out.trans (hg.mono (by simp))
    clear T0 B0 P hg
    have hsz := B3.size
    have f0 := T3.f0
    have h1 := T3.c0
    have h2 := T3.c1
    have f1 := T3.f1
    replace T3 := Lib.hid T3
    go_wp2
    have T5 := (T3.out.set0 d).set1 (bs nm)
    refine bodyPost_ret (v := .tuple #[tyV d nm, .int .i64 er]) (by simp [results, Tryd.results29, go_sem, tyV, bs_nil, T5.c0, T5.c1]) rfl ⟨by rw [hp.out, hpt.out], ?_⟩
    repeat' (first | assumption | apply Below.setCell | apply Below.alloc | apply Below.drew)
    all_goals (first | omega | (simp; done) | (simp; omega))
theorem first_byte (l : List UInt8) : (l.length = 0 ∧ brk l = false) ∨ (0 < (l.length : Int) ∧ ∃ x : UInt8, (∀ h : 0 < (bs l).size, (((bs l)[0]'h).toNat : Int) = x.toNat) ∧ ((x.toNat : Int) == 91) = brk l) := by
  cases l with
  | nil => exact .inl ⟨rfl, rfl⟩
  | cons x r =>
    right
    refine ⟨by simp only [List.length_cons]; omega, x, fun h => (bt_at _ 0 h).trans (by simp [bt, bs]), ?_⟩
    rw [Bool.eq_iff_iff]
    simp only [beq_iff_eq, brk, took, List.head?_cons, Option.some_beq_some]
    constructor
    · intro h; exact u8_ne (n := 91) (by omega) h
    · rintro rfl; rfl
end Go.Proofs.YtpcdfjifhoofjaaDoor.Ty

/- Descriptors ts they are read out of a list of bytes. No program in sight. -/
namespace Go.Proofs.YtpcdfjifhoofjaaDoor.Ty
open Go Go.RowKit Go.Proofs.YtpcdfjifhoofjaaDoor.Nm
set_option linter.unusedVariables false
set_option linter.unusedSimpArgs false

/-- The arguments up to ')', and what is behind it. The number: more than the text is long. -/
def rdArgs : Nat → List UInt8 → Option (List (Nat × List UInt8) × List UInt8)
  | 0, _ => none
  | f + 1, l =>
    if took l 41 then some ([], l.tail) else
      match (rd l).rest with
      | none => none
      | some r => (rdArgs f r).map fun p => (((rd l).dims, (rd l).name) :: p.1, p.2)
def prep (ts : List (Nat × List UInt8)) (o : Option (List (Nat × List UInt8) × List UInt8)) : Option (List (Nat × List UInt8) × List UInt8) := o.map fun p => (ts ++ p.1, p.2)
theorem prep_nil (o : Option (List (Nat × List UInt8) × List UInt8)) : prep [] o = o := by cases o <;> rfl
theorem rdArgs_close (f : Nat) (l : List UInt8) (ts) (h : took l 41 = true) : prep ts (rdArgs (f + 1) l) = some (ts, l.tail) := by
  rw [rdArgs, if_pos h]; simp [prep]
theorem rdArgs_fail (f : Nat) (l : List UInt8) (ts) (h : took l 41 = false) (hr : (rd l).rest = none) : prep ts (rdArgs (f + 1) l) = none := by
  rw [rdArgs, if_neg (by simp [h]), hr]; rfl
theorem rdArgs_step (f : Nat) (l r : List UInt8) (ts) (h : took l 41 = false) (hr : (rd l).rest = some r) : prep ts (rdArgs (f + 1) l) = prep (ts ++ [((rd l).dims, (rd l).name)]) (rdArgs f r) := by
  rw [rdArgs, if_neg (by simp [h]), hr]
  show prep ts ((rdArgs f r).map _) = _
  cases rdArgs f r <;> simp [prep]
def wideL (ts : List (Nat × List UInt8)) : Bool := ts.any fun a => decide (255 < a.1)
theorem wideL_snoc (ts : List (Nat × List UInt8)) (k : Nat) (nm : List UInt8) : wideL (ts ++ [(k, nm)]) = (wideL ts || decide (255 < k)) := by simp [wideL]
/-- The cells of a list of types. -/
def tyCells (ts : List (Nat × List UInt8)) : List Value := ts.flatMap fun a => [.int .i64 a.1, .string (bs a.2)]
theorem tyCells_snoc (ts : List (Nat × List UInt8)) (k : Nat) (nm : List UInt8) : tyCells (ts ++ [(k, nm)]) = tyCells ts ++ [.int .i64 k, .string (bs nm)] := by simp [tyCells]

/-- A descriptor that was read: arguments, void, the result's dimensions and name. -/
structure DescR where
  args : List (Nat × List UInt8)
  void : Bool
  rdims : Int
  rname : List UInt8
def DescR.zero : DescR := ⟨[], false, 0, []⟩
/-- Behind the result of a descriptor: what is left, were the types all small. -/
def descEnd (d : DescR) (wide : Bool) (r : List UInt8) : DescR × Int :=
  if r ≠ [] then (.zero, 4) else if wide || decide (20 < d.args.length) then (.zero, 5) else (d, 0)
def descRet (ts : List (Nat × List UInt8)) (q : List UInt8) : DescR × Int :=
  if took q 86 then descEnd ⟨ts, true, 0, []⟩ (wideL ts) q.tail
  else match (rd q).rest with
    | none => (.zero, 4)
    | some r => descEnd ⟨ts, false, (rd q).dims, (rd q).name⟩ (wideL ts || decide (255 < (rd q).dims)) r
def descOf : Option (List (Nat × List UInt8) × List UInt8) → DescR × Int
  | none => (.zero, 4)
  | some p => descRet p.1 p.2
def parseD (l : List UInt8) : DescR × Int :=
  if 2000 < l.length then (.zero, 5) else if took l 40 then descOf (rdArgs (l.length + 1) l.tail) else (.zero, 4)
theorem parseD_big (l : List UInt8) (h : 2000 < l.length) : parseD l = (.zero, 5) := by rw [parseD, if_pos h]
theorem parseD_not (l : List UInt8) (h : ¬ 2000 < l.length) (ht : took l 40 = false) : parseD l = (.zero, 4) := by rw [parseD, if_neg h, if_neg (by simp [ht])]
theorem parseD_args (l : List UInt8) (h : ¬ 2000 < l.length) (ht : took l 40 = true) : parseD l = descOf (rdArgs (l.length + 1) l.tail) := by rw [parseD, if_neg h, if_pos ht]
end Go.Proofs.YtpcdfjifhoofjaaDoor.Ty

/- The walk of types.ParseDesc. -/
namespace Go.Proofs.YtpcdfjifhoofjaaDoor.Ty
open Go Go.RowKit Go.Proofs.YtpcdfjifhoofjaaDoor.Nm
set_option linter.unusedVariables false
set_option linter.unusedSimpArgs false
set_option maxHeartbeats 1000000
set_option maxRecDepth 10000

/-- A descriptor in block B. -/
structure Four (w : World) (B : Nat) (v : Value) (void : Bool) (k : Int) (nm : ByteArray) : Prop where
  c0 : w.cell? ⟨B, 0, none⟩ = some v
  c1 : w.cell? ⟨B, 1, none⟩ = some (.bool void)
  c2 : w.cell? ⟨B, 2, none⟩ = some (.int .i64 k)
  c3 : w.cell? ⟨B, 3, none⟩ = some (.string nm)
  f0 : w.frozen? ⟨B, 0, none⟩ = false
  f1 : w.frozen? ⟨B, 1, none⟩ = false
  f2 : w.frozen? ⟨B, 2, none⟩ = false
  f3 : w.frozen? ⟨B, 3, none⟩ = false
section
variable {w w' : World} {b : Nat} {v : Value} {vo : Bool} {k : Int} {nm : ByteArray}
theorem Four.lt (h : Four w b v vo k nm) : b < w.heap.size := World.block_lt_of_cell? w _ h.c0
theorem Four.drew (h : Four w b v vo k nm) : Four w.drew b v vo k nm := ⟨h.c0, h.c1, h.c2, h.c3, h.f0, h.f1, h.f2, h.f3⟩
theorem Four.kept (h : Four w b v vo k nm) {row : Option Nat} (hg : w.grownBy w' row) (hne : some b ≠ row) : Four w' b v vo k nm :=
  ⟨(hg.cell_far _ h.lt hne).trans h.c0, (hg.cell_far _ h.lt hne).trans h.c1, (hg.cell_far _ h.lt hne).trans h.c2, (hg.cell_far _ h.lt hne).trans h.c3,
   (hg.frozen_far _ h.lt hne).trans h.f0, (hg.frozen_far _ h.lt hne).trans h.f1, (hg.frozen_far _ h.lt hne).trans h.f2, (hg.frozen_far _ h.lt hne).trans h.f3⟩
theorem Four.set0 (h : Four w b v vo k nm) (q : Value) : Four (w.setCell ⟨b, 0, none⟩ q) b q vo k nm := by
  have := h.c0; have := h.c1; have := h.c2; have := h.c3; have := h.f0; have := h.f1; have := h.f2; have := h.f3
  constructor <;> simp_all [World.cell?_setCell_same, World.cell?_setCell_other, World.frozen?_setCell]
theorem Four.set1 (h : Four w b v vo k nm) (q : Bool) : Four (w.setCell ⟨b, 1, none⟩ (.bool q)) b v q k nm := by
  have := h.c0; have := h.c1; have := h.c2; have := h.c3; have := h.f0; have := h.f1; have := h.f2; have := h.f3
  constructor <;> simp_all [World.cell?_setCell_same, World.cell?_setCell_other, World.frozen?_setCell]
theorem Four.set2 (h : Four w b v vo k nm) (q : Int) : Four (w.setCell ⟨b, 2, none⟩ (.int .i64 q)) b v vo q nm := by
  have := h.c0; have := h.c1; have := h.c2; have := h.c3; have := h.f0; have := h.f1; have := h.f2; have := h.f3
  constructor <;> simp_all [World.cell?_setCell_same, World.cell?_setCell_other, World.frozen?_setCell]
theorem Four.set3 (h : Four w b v vo k nm) (q : ByteArray) : Four (w.setCell ⟨b, 3, none⟩ (.string q)) b v vo k q := by
  have := h.c0; have := h.c1; have := h.c2; have := h.c3; have := h.f0; have := h.f1; have := h.f2; have := h.f3
  constructor <;> simp_all [World.cell?_setCell_same, World.cell?_setCell_other, World.frozen?_setCell]
theorem Four.new (w : World) (v : Value) (vo : Bool) (k : Int) (nm : ByteArray) (t : TypeId) : Four (w.alloc (.cells #[v, .bool vo, .int .i64 k, .string nm] t)) w.heap.size v vo k nm := by
  constructor
  iterate 4 (rw [cell_new]; rfl)
  all_goals (unfold World.frozen?; rw [heap_alloc_new]; rfl)
end
theorem own_mono {w : World} {base base' : Nat} {e : TypeId} {size n : Nat} {v : Value} {xs : List Value} (h : w.ownsRow base e size v n xs) (hb : base' ≤ base) : w.ownsRow base' e size v n xs :=
  ⟨h.1, h.2.imp id fun ⟨g, cap, cur, e, hg, r⟩ => ⟨g, cap, cur, e, Nat.le_trans hb hg, r⟩⟩
def descV (v : Value) (vo : Bool) (k : Int) (nm : ByteArray) : Value := .agg #[v, .bool vo, .int .i64 k, .string nm]
/-- The loop's state while the text is good: f more than what is left is long. -/
structure Good (w wr : World) (o : Option (List (Nat × List UInt8) × List UInt8)) (f : Nat) (q : List UInt8) (ts : List (Nat × List UInt8)) (v : Value) : Prop where
  len : q.length < f
  small : f ≤ 2001
  count : ts.length + f ≤ 2001
  rest : prep ts (rdArgs f q) = o
  cur : Cur wr (w.heap.size + 1) q (wideL ts)
  desc : Four wr (w.heap.size + 1 + 1) v false 0 ⟨#[]⟩
  own : wr.ownsRow (w.heap.size + 3) 37 2 v ts.length (tyCells ts)
theorem infoT : (Tryd.prog.info? 37).map (fun i => (i.zero, i.size, i.bytes)) = some (some (.agg #[.int .i64 0, .string ⟨#[]⟩]), 2, 24) := by kernel_rfl

theorem parsedesc_any (l : List UInt8) (w : World) (hm : ML w) : Calls Tryd.prog 31 #[.string (bs l)] w fun e w' =>
    ∃ v, e = .returned (.tuple #[descV v (parseD l).1.void (parseD l).1.rdims (bs (parseD l).1.rname), .int .i64 (parseD l).2]) ∧ w'.ownsRow w.heap.size 37 2 v (parseD l).1.args.length (tyCells (parseD l).1.args) ∧ Below w.heap.size w w' := by
  have hz := mk_size l
  have hzl : ((bs l).size : Int) = l.length := by rw [hz]
  clear hz
  by_cases hbig : 2000 < l.length
  · have hp : parseD l = (.zero, 5) := parseD_big l hbig
    replace hp := Lib.hid hp
    go_enter Tryd.func31, Tryd.ntmps31
    go_wp2
    go_step3
    go_wp2
    rw [Exit.noGoto_ret]
    refine bodyPost_ret (v := .tuple #[descV (.slice none 0 0) false 0 ⟨#[]⟩, .int .i64 5]) (by simp [results, Tryd.results31, go_sem, descV]) rfl ⟨_, by rw [hp.out]; rfl, by rw [hp.out]; exact World.ownsRow_nil _ _ _ _, ?_⟩
    have B0 := Below.refl w.heap.size w
    repeat' (first | assumption | apply Below.setCell | apply Below.alloc | apply Below.drew)
    all_goals (first | omega | (simp; done) | (simp; omega))
  · have hpn := Lib.hid (parseD_not l hbig)
    have hpa := Lib.hid (parseD_args l hbig)
    have hsm : (l.length : Int) ≤ 2000 := by omega
    go_enter Tryd.func31, Tryd.ntmps31
    go_wp2
    go_step3
    go_wp2_with fail
    have R0 := Four.new w (.slice none 0 0) false 0 ⟨#[]⟩ 43
    have C0 := Cur.new (w.alloc (.cells #[.slice none 0 0, .bool false, .int .i64 0, .string ⟨#[]⟩] 43)) l false 67
    have D0 := Four.new ((w.alloc (.cells #[.slice none 0 0, .bool false, .int .i64 0, .string ⟨#[]⟩] 43)).alloc (.cells #[.string (bs l), .bool false] 67)) (.slice none 0 0) false 0 ⟨#[]⟩ 43
    have hz1 : (w.alloc (.cells #[.slice none 0 0, .bool false, .int .i64 0, .string ⟨#[]⟩] 43)).heap.size = w.heap.size + 1 := by simp
    have hz2 : ((w.alloc (.cells #[.slice none 0 0, .bool false, .int .i64 0, .string ⟨#[]⟩] 43)).alloc (.cells #[.string (bs l), .bool false] 67)).heap.size = w.heap.size + 1 + 1 := by simp
    rw [hz1] at C0
    rw [hz2] at D0
    have R1 := (R0.kept (World.grownBy_alloc _ (.cells #[.string (bs l), .bool false] 67) none) (by simp)).kept (World.grownBy_alloc _ (.cells #[.slice none 0 0, .bool false, .int .i64 0, .string ⟨#[]⟩] 43) none) (by simp)
    have C1 := C0.kept (World.grownBy_alloc _ (.cells #[.slice none 0 0, .bool false, .int .i64 0, .string ⟨#[]⟩] 43) none) (by simp)
    have B1 : Below w.heap.size w (((w.alloc (.cells #[.slice none 0 0, .bool false, .int .i64 0, .string ⟨#[]⟩] 43)).alloc (.cells #[.string (bs l), .bool false] 67)).alloc (.cells #[.slice none 0 0, .bool false, .int .i64 0, .string ⟨#[]⟩] 43)) := (((Below.refl _ _).alloc (Nat.le_refl _) _).alloc (by simp) _).alloc (by simp; omega) _
    refine (take_any (w.heap.size + 1) l (by omega) false 40 _ C1).mono ?_
    rintro e w1 ⟨rfl, hC, hg⟩
    have hR := R1.kept hg (by simp)
    have hD := D0.kept hg (by simp)
    have hsz1 := hD.lt
    have hB := B1.grown hg (by simp; omega) (by simp)
    clear R0 C0 D0 hz1 hz2 R1 C1 B1 hg
    replace hC := Lib.hid hC
    replace hR := Lib.hid hR
    replace hD := Lib.hid hD
    replace hB := Lib.hid hB
    have hM : ML w1 := hm.below hB.out
    replace hM := Lib.hid hM
    obtain ⟨o, ho⟩ : ∃ o, o = if took l 40 then rdArgs (l.length + 1) l.tail else none := ⟨_, rfl⟩
    have hpo : parseD l = descOf o := by
      cases ht : took l 40
      · rw [ho, ht, hpn.out ht]; rfl
      · rw [ho, ht, hpa.out ht]; rfl
    replace hpo := Lib.hid hpo
    have hstart : took l 40 = true → ∃ q ts v, Good w w1 o (l.length + 1) q ts v := by
      intro ht
      refine ⟨l.tail, [], .slice none 0 0, ?_⟩
      have h0 := hC.out
      rw [left, if_pos ht] at h0
      exact ⟨by simp; omega, by omega, by simp; omega, by rw [prep_nil, ho, if_pos ht], h0, hD.out, World.ownsRow_nil _ _ _ _⟩
    have hstart2 : took l 40 = false → o = none := by
      intro ht
      rw [ho, ht]; rfl
    replace hstart := Lib.hid hstart
    replace hstart2 := Lib.hid hstart2
    clear ho hpn hpa hC hD
    generalize took l 40 = ok0 at *
    go_wp2
    go_step3
    go_wp2
    go_loopg [6] (l.length + 1) (fun g v6 wr => ∃ ok : Bool, v6 = .bool ok ∧ Four wr w.heap.size (.slice none 0 0) false 0 ⟨#[]⟩ ∧ ML wr ∧ Below w.heap.size w wr ∧ w.heap.size + 1 + 1 < wr.heap.size ∧ (ok = false → o = none) ∧ (ok = true → ∃ q ts v, Good w wr o g q ts v))
    case atStart => exact ⟨ok0, rfl, hR.out, hM.out, hB.out, hsz1, hstart2.out, hstart.out⟩
    case round =>
      obtain ⟨ok, rfl, hR, hM, hB, hsz, hno, hyes⟩ := hrel
      have hlt := hR.lt
      replace hM := Lib.hid hM
      replace hB := Lib.hid hB
      cases ok
      · have hpo2 : parseD l = (.zero, 4) := by rw [hpo.out, hno rfl]; rfl
        replace hpo2 := Lib.hid hpo2
        clear hno hyes hpo
        have h0 := hR.c0
        have h1 := hR.c1
        have h2 := hR.c2
        have h3 := hR.c3
        have f0 := hR.f0
        have f1 := hR.f1
        have f2 := hR.f2
        have f3 := hR.f3
        replace hR := Lib.hid hR
        go_wp2
        rw [Exit.noGoto_ret]
        have T5 := (((hR.out.set0 (.slice none 0 0)).set1 false).set2 0).set3 ⟨#[]⟩
        refine bodyPost_ret (v := .tuple #[descV (.slice none 0 0) false 0 ⟨#[]⟩, .int .i64 4]) (by simp [results, Tryd.results31, go_sem, descV, T5.c0, T5.c1, T5.c2, T5.c3]) rfl ⟨_, by rw [hpo2.out]; rfl, by rw [hpo2.out]; exact World.ownsRow_nil _ _ _ _, ?_⟩
        have B0 := hB.out
        repeat' (first | assumption | apply Below.setCell | apply Below.alloc | apply Below.drew)
        all_goals (first | omega | (simp; done) | (simp; omega))
      · obtain ⟨q, ts, v, G⟩ := hyes rfl
        clear hno hyes
        have hql := G.len
        have hqs := G.small
        go_wp2_with fail
        refine (take_any (w.heap.size + 1) q (by omega) (wideL ts) 41 _ G.cur).mono ?_
        rintro e w2 ⟨rfl, hC, hg⟩
        have hD := G.desc.kept hg (by simp)
        have hown := G.own.kept hg (by
          by_cases hb : v.ownBlock = none
          · exact .inl hb
          · right
            obtain ⟨kb, hkb⟩ := Option.ne_none_iff_exists'.1 hb
            have := (G.own.lt kb hkb).1
            rw [hkb]
            intro e
            cases e
            omega)
        replace hR := hR.kept hg (by simp)
        have hM2 : ML w2 := ml_kept hM.out G.cur hg
        have hB2 := hB.out.grown hg (by omega) (by simp)
        have hsz2 : w.heap.size + 1 + 1 < w2.heap.size := Nat.lt_of_lt_of_le hsz hg.size
        have hrest := G.rest
        have hcnt := G.count
        clear G hg hM hB hlt hsz
        replace hC := Lib.hid hC
        replace hown := Lib.hid hown
        replace hM2 := Lib.hid hM2
        replace hB2 := Lib.hid hB2
        replace hrest := Lib.hid hrest
        obtain ⟨f, rfl⟩ : ∃ f, gk = f + 1 := ⟨gk - 1, by omega⟩
        have hne : ∀ k, v.ownBlock = some k → w.heap.size + 3 ≤ k ∧ k < w2.heap.size := hown.out.lt
        have hneq : ∀ m, (m < w.heap.size + 3 ∨ w2.heap.size ≤ m) → v.ownBlock = none ∨ v.ownBlock ≠ some m := by
          intro m hm
          right
          intro e
          have := hne m e
          omega
        replace hneq := Lib.hid hneq
        clear hne
        cases t41 : took q 41
        · have hC0 : Cur w2 (w.heap.size + 1) q (wideL ts) := by have := hC.out; rwa [left, t41] at this
          clear hC
          have hTt := Two.new w2 0 ⟨#[]⟩ 37
          have gA := World.grownBy_alloc w2 (.cells #[.int .i64 0, .string ⟨#[]⟩] 37) none
          have hsA : (w2.alloc (.cells #[.int .i64 0, .string ⟨#[]⟩] 37)).heap.size = w2.heap.size + 1 := by simp
          have hC1 := hC0.kept gA (by simp)
          have hM1 := ml_alloc hM2.out (.cells #[.int .i64 0, .string ⟨#[]⟩] 37)
          have hD1 := hD.kept gA (by simp)
          have hR1 := hR.kept gA (by simp)
          have hO1 := hown.out.alloc (.cells #[.int .i64 0, .string ⟨#[]⟩] 37)
          have hB1 := hB2.out.alloc (by omega) (.cells #[.int .i64 0, .string ⟨#[]⟩] 37)
          have O := Lib.hid (one_any (w.heap.size + 1) q (by omega) (wideL ts) _ hC1 hM1)
          replace hsA := Lib.hid hsA
          replace gA := Lib.hid gA
          replace hTt := Lib.hid hTt
          replace hC1 := Lib.hid hC1
          replace hM1 := Lib.hid hM1
          replace hD1 := Lib.hid hD1
          replace hR1 := Lib.hid hR1
          replace hO1 := Lib.hid hO1
          replace hB1 := Lib.hid hB1
          clear hC0 hD hR hown hB2 hM2
          go_wp2_with fail
          refine O.out.mono ?_
          rintro e w3 ⟨d, nm, rfl, hg3, hsome⟩
          have hTn : some w2.heap.size ≠ some (w.heap.size + 1) := by intro e; injection e with e; omega
          have hT3 := hTt.out.kept hg3 hTn
          have hD3 := hD1.out.kept hg3 (by simp)
          have hR3 := hR1.out.kept hg3 (by simp)
          have hO3 := hO1.out.kept hg3 (hneq.out _ (.inl (by omega)))
          have hB3 := hB1.out.grown hg3 (by rw [hsA.out]; omega) (by simp)
          have hM3 := ml_kept hM1.out hC1.out hg3
          have hs3 : w2.heap.size < w3.heap.size := by have := hg3.size; rw [hsA.out] at this; omega
          clear O hTt hD1 hR1 hO1 hB1 hM1 hC1 hg3 gA hsA
          have h1 := hT3.c0
          have h2 := hT3.c1
          have h3 := hT3.f0
          have h4 := hT3.f1
          replace hT3 := Lib.hid hT3
          replace hD3 := Lib.hid hD3
          replace hR3 := Lib.hid hR3
          replace hO3 := Lib.hid hO3
          replace hB3 := Lib.hid hB3
          replace hM3 := Lib.hid hM3
          replace hsome := Lib.hid hsome
          go_upto_region 10 with fail
          have g1 := gb_set w3 w2.heap.size 0 (.int .i64 d)
          have g2 := gb_set (w3.setCell ⟨w2.heap.size, 0, none⟩ (.int .i64 d)) w2.heap.size 1 (.string nm)
          have g12 := g1.trans g2
          have hT4 := (hT3.out.set0 d).set1 nm
          have hx1 : some (w.heap.size + 1 + 1) ≠ some w2.heap.size := by intro e; injection e with e; omega
          have hx2 : some w.heap.size ≠ some w2.heap.size := by intro e; injection e with e; omega
          have hx3 : some (w.heap.size + 1) ≠ some w2.heap.size := by intro e; injection e with e; omega
          have hD4 := hD3.out.kept g12 hx1
          have hR4 := hR3.out.kept g12 hx2
          have hO4 := hO3.out.kept g12 (hneq.out _ (.inr (Nat.le_refl _)))
          have hB4 := hB3.out.grown g12 (by have := hB3.out.size; omega) (by intro k hk; cases hk; omega)
          have hs4 := g12.size
          have hM4 : ML ((w3.setCell ⟨w2.heap.size, 0, none⟩ (.int .i64 d)).setCell ⟨w2.heap.size, 1, none⟩ (.string nm)) := hm.below hB4
          have hC4 : ∀ r, (rd q).rest = some r → Cur ((w3.setCell ⟨w2.heap.size, 0, none⟩ (.int .i64 d)).setCell ⟨w2.heap.size, 1, none⟩ (.string nm)) (w.heap.size + 1) r (wideL ts || decide (255 < (rd q).dims)) := fun r hr => (hsome.out r hr).2.2.kept g12 hx3
          have hdn : ∀ r, (rd q).rest = some r → d = (rd q).dims ∧ nm = bs (rd q).name := fun r hr => ⟨(hsome.out r hr).1, (hsome.out r hr).2.1⟩
          clear g1 g2 g12 h1 h2 h3 h4 hT3 hD3 hR3 hO3 hB3 hM3 hsome hx1 hx2 hx3
          generalize (w3.setCell ⟨w2.heap.size, 0, none⟩ (.int .i64 d)).setCell ⟨w2.heap.size, 1, none⟩ (.string nm) = W4 at *
          have h1 := hT4.c0
          have h2 := hT4.c1
          have k1 := hD4.c0
          have k2 := hD4.f0
          have hs5 : w.heap.size + 3 ≤ W4.heap.size := by omega
          have hv1 : ∀ m, m < w.heap.size + 3 → some m ≠ v.ownBlock := by
            intro m hm
            rcases hneq.out m (.inl hm) with h | h
            · rw [h]; simp
            · exact Ne.symm h
          have hvD := hv1 (w.heap.size + 1 + 1) (by omega)
          have hvR := hv1 w.heap.size (by omega)
          have hvC := hv1 (w.heap.size + 1) (by omega)
          clear hv1
          replace hvD := Lib.hid hvD
          replace hvR := Lib.hid hvR
          replace hvC := Lib.hid hvC
          replace hT4 := Lib.hid hT4
          replace hD4 := Lib.hid hD4
          replace hR4 := Lib.hid hR4
          replace hO4 := Lib.hid hO4
          replace hB4 := Lib.hid hB4
          replace hM4 := Lib.hid hM4
          replace hC4 := Lib.hid hC4
          replace hdn := Lib.hid hdn
          go_wp2_with (at_builtin; go_loud (refine append1 (w.heap.size + 3) rfl _ _ _ 37 (.agg #[.int .i64 0, .string ⟨#[]⟩]) 2 24 rfl Tryd.underlying41 infoT rfl (by decide) _ _ _ [.int .i64 d, .string nm] rfl _ (by simp) rfl rfl (by simp [Value.oneCell']) (by exact hO4.out) (by omega) (by omega) (by omega) ?_); intro v1 w5 hown5 hg5; obtain ⟨A1, cp1, rfl⟩ := own_shape hown5; have hD5 := hD4.out.kept hg5 hvD.out; have k1' := hD5.c0; have k2' := hD5.f0; replace hD5 := Lib.hid hD5; replace hown5 := Lib.hid hown5; replace hg5 := Lib.hid hg5)
          go_roundg f
          case rel =>
            have hR5 := hR4.out.kept hg5.out hvR.out
            have hB5 := hB4.out.grown hg5.out (by omega) (by intro k hk; have := (hO4.out.lt k hk).1; omega)
            have gs := gb_set w5 (w.heap.size + 1 + 1) 0 (.slice A1 (ts.length + 1) cp1)
            refine ⟨_, rfl, hR5.kept gs (by simp; omega), hm.below (hB5.setCell (by simp; omega) _), hB5.setCell (by simp; omega) _, ?_, ?_, ?_⟩
            · have := hg5.out.size; exact Nat.lt_of_lt_of_le (by omega) gs.size
            · intro h
              have hn : (rd q).rest = none := by cases hh : (rd q).rest with | none => rfl | some r => rw [hh] at h; cases h
              rw [← hrest.out, rdArgs_fail f q ts t41 hn]
            · intro h
              obtain ⟨r, hr⟩ : ∃ r, (rd q).rest = some r := Option.isSome_iff_exists.1 h
              have hrl := rd_len q r hr
              have hC5 := (hC4.out r hr).kept hg5.out hvC.out
              refine ⟨r, ts ++ [((rd q).dims, (rd q).name)], .slice A1 (ts.length + 1) cp1, by omega, by omega, by simp; omega, ?_, ?_, hD5.out.set0 _, ?_⟩
              · rw [← hrest.out, rdArgs_step f q r ts t41 hr]
              · rw [wideL_snoc]; exact hC5.kept gs (by simp)
              · have h6 := hown5.out
                rw [(hdn.out r hr).1, (hdn.out r hr).2, ← tyCells_snoc] at h6
                rw [show (ts ++ [((rd q).dims, (rd q).name)]).length = ts.length + 1 by simp]
                exact h6.kept gs (.inr (by intro e; have := (h6.lt _ e).1; omega))
          case measure => omega
        · have ho2 : o = some (ts, q.tail) := by rw [← hrest.out, rdArgs_close f q ts t41]
          have hpo2 : parseD l = descRet ts q.tail := by rw [hpo.out, ho2]; rfl
          have hC0 : Cur w2 (w.heap.size + 1) q.tail (wideL ts) := by have := hC.out; rwa [left, if_pos t41] at this
          have hqt : q.tail.length ≤ q.length := by simp
          generalize q.tail = q2 at *
          replace hpo2 := Lib.hid hpo2
          clear hC ho2 hrest t41 hpo
          go_wp2_with fail
          refine (take_any (w.heap.size + 1) q2 (by omega) (wideL ts) 86 _ hC0).mono ?_
          rintro e w3 ⟨rfl, hC3, hg3⟩
          have hD3 := hD.kept hg3 (by simp)
          have hR3 := hR.kept hg3 (by simp)
          have hO3 := hown.out.kept hg3 (hneq.out _ (.inl (by omega)))
          have hB3 := hB2.out.grown hg3 (by omega) (by simp)
          have hs3 : w2.heap.size ≤ w3.heap.size := hg3.size
          clear hD hR hown hB2 hM2 hC0 hg3
          have k1 := hD3.c1
          have k2 := hD3.f1
          replace hC3 := Lib.hid hC3
          replace hD3 := Lib.hid hD3
          replace hR3 := Lib.hid hR3
          replace hO3 := Lib.hid hO3
          replace hB3 := Lib.hid hB3
          cases t86 : took q2 86
          · have hC4 : Cur w3 (w.heap.size + 1) q2 (wideL ts) := by have := hC3.out; rwa [left, t86] at this
            obtain ⟨A, cp, rfl⟩ := own_shape hO3.out
            have gs := gb_set w3 (w.heap.size + 1 + 1) 1 (.bool false)
            have hD4 := hD3.out.set1 false
            have hR4 := hR3.out.kept gs (by simp; omega)
            have hC4 := hC4.kept gs (by simp)
            have hO4 := hO3.out.kept gs (.inr (by intro e; have := (hO3.out.lt _ e).1; omega))
            have hB4 := hB3.out.setCell (p := ⟨w.heap.size + 1 + 1, 1, none⟩) (by simp; omega) (.bool false)
            have hlt4 := hD4.lt
            go_upto_region 13 with fail
            clear gs hD3 hR3 hC3 hO3 hB3 k1 k2
            generalize w3.setCell ⟨w.heap.size + 1 + 1, 1, none⟩ (.bool false) = W3 at *
            have hM3 : ML W3 := hm.below hB4
            have d1 := hD4.c1
            have O := Lib.hid (one_any (w.heap.size + 1) q2 (by omega) (wideL ts) _ hC4 hM3)
            replace hC4 := Lib.hid hC4
            replace hM3 := Lib.hid hM3
            replace hD4 := Lib.hid hD4
            replace hR4 := Lib.hid hR4
            replace hO4 := Lib.hid hO4
            replace hB4 := Lib.hid hB4
            have hpo3 : parseD l = match (rd q2).rest with
              | none => (DescR.zero, (4 : Int))
              | some r => descEnd ⟨ts, false, (rd q2).dims, (rd q2).name⟩ (wideL ts || decide (255 < (rd q2).dims)) r := by
              rw [hpo2.out, descRet, if_neg (by simp [t86])] <;> rfl
            replace hpo3 := Lib.hid hpo3
            clear hpo2
            go_wp2_with fail
            refine O.out.mono ?_
            rintro e w5 ⟨d, nm, rfl, hg5, hsome⟩
            have hD5 := hD4.out.kept hg5 (by simp)
            have hR5 := hR4.out.kept hg5 (by simp)
            have hO5 := hO4.out.kept hg5 (.inr (by intro e; have := (hO4.out.lt _ e).1; omega))
            have hB5 := hB4.out.grown hg5 (by omega) (by simp)
            have gs := (gb_set w5 (w.heap.size + 1 + 1) 2 (.int .i64 d)).trans (gb_set (w5.setCell ⟨w.heap.size + 1 + 1, 2, none⟩ (.int .i64 d)) (w.heap.size + 1 + 1) 3 (.string nm))
            have k2 := hD5.c2
            have k3 := hD5.c3
            have e2 := hD5.f2
            have e3 := hD5.f3
            have hlt5 := hD5.lt
            have hD6 := (hD5.set2 d).set3 nm
            have hR6 := hR5.kept gs (by simp; omega)
            have hO6 := hO5.kept gs (.inr (by intro e; have := (hO5.lt _ e).1; omega))
            have hB6 := hB5.grown gs (by omega) (by intro k hk; cases hk; omega)
            have hC6 : ∀ r, (rd q2).rest = some r → d = (rd q2).dims ∧ nm = bs (rd q2).name ∧ Cur ((w5.setCell ⟨w.heap.size + 1 + 1, 2, none⟩ (.int .i64 d)).setCell ⟨w.heap.size + 1 + 1, 3, none⟩ (.string nm)) (w.heap.size + 1) r (wideL ts || decide (255 < (rd q2).dims)) := fun r hr => ⟨(hsome r hr).1, (hsome r hr).2.1, (hsome r hr).2.2.kept gs (by simp)⟩
            clear hD5 hR5 hO5 hB5 gs hD4 hR4 hO4 hB4 hC4 hM3 O hg5 hsome d1
            replace hD6 := Lib.hid hD6
            replace hR6 := Lib.hid hR6
            replace hO6 := Lib.hid hO6
            replace hB6 := Lib.hid hB6
            replace hC6 := Lib.hid hC6
            go_upto_region 15 with fail
            clear k2 k3 e2 e3
            generalize (w5.setCell ⟨w.heap.size + 1 + 1, 2, none⟩ (.int .i64 d)).setCell ⟨w.heap.size + 1 + 1, 3, none⟩ (.string nm) = W4 at *
            have hD4 := hD6
            have hR4 := hR6
            have hO4 := hO6
            have hB4 := hB6
            clear hD6 hR6 hO6 hB6
            cases hr : (rd q2).rest with
            | none =>
              have hpo5 : parseD l = (.zero, 4) := by rw [hpo3.out, hr]
              replace hpo5 := Lib.hid hpo5
              clear hC6
              have h0 := hR4.out.c0
              have h1 := hR4.out.c1
              have h2 := hR4.out.c2
              have h3 := hR4.out.c3
              have f0 := hR4.out.f0
              have f1 := hR4.out.f1
              have f2 := hR4.out.f2
              have f3 := hR4.out.f3
              have hs4 := hR4.out.lt
              go_wp2
              rw [Exit.noGoto_ret]
              have T5 := (((hR4.out.set0 (.slice none 0 0)).set1 false).set2 0).set3 ⟨#[]⟩
              refine bodyPost_ret (v := .tuple #[descV (.slice none 0 0) false 0 ⟨#[]⟩, .int .i64 4]) (by simp [results, Tryd.results31, go_sem, descV, T5.c0, T5.c1, T5.c2, T5.c3]) rfl ⟨_, by rw [hpo5.out]; rfl, by rw [hpo5.out]; exact World.ownsRow_nil _ _ _ _, ?_⟩
              have B0 := hB4.out
              repeat' (first | assumption | apply Below.setCell | apply Below.alloc | apply Below.drew)
              all_goals (first | omega | (simp; done) | (simp; omega))
            | some r =>
              obtain ⟨rfl, rfl, hC4⟩ := hC6.out r hr
              replace hC4 := Lib.hid hC4
              have hpo4 : parseD l = descEnd ⟨ts, false, (rd q2).dims, (rd q2).name⟩ (wideL ts || decide (255 < (rd q2).dims)) r := by rw [hpo3.out, hr]
              replace hpo4 := Lib.hid hpo4
              clear hC6 hpo3 hr
              generalize (wideL ts || decide (255 < (rd q2).dims)) = wd at *
              generalize (rd q2).dims = k at *
              generalize (rd q2).name = nm at *
              have h0 := hR4.out.c0
              have h1 := hR4.out.c1
              have h2 := hR4.out.c2
              have h3 := hR4.out.c3
              have f0 := hR4.out.f0
              have f1 := hR4.out.f1
              have f2 := hR4.out.f2
              have f3 := hR4.out.f3
              have d0 := hD4.out.c0
              have d1 := hD4.out.c1
              have d2 := hD4.out.c2
              have d3 := hD4.out.c3
              have p0 := hC4.out.c0
              have p1 := hC4.out.c1
              have hs4 := hR4.out.lt
              cases r with
              | cons x r =>
                have hpo5 : parseD l = (.zero, 4) := by rw [hpo4.out, descEnd, if_pos (by simp)]
                replace hpo5 := Lib.hid hpo5
                have hne : ¬ (bs (x :: r)).toList = [] := by
                  rw [ByteArray.toList_eq]
                  simp [bs]
                have hie : (bs (x :: r)).toList.isEmpty = false := by
                  rw [ByteArray.toList_eq]
                  simp [bs]
                generalize bs (x :: r) = sr at *
                go_wp2
                rw [Exit.noGoto_ret]
                have T5 := (((hR4.out.set0 (.slice none 0 0)).set1 false).set2 0).set3 ⟨#[]⟩
                refine bodyPost_ret (v := .tuple #[descV (.slice none 0 0) false 0 ⟨#[]⟩, .int .i64 4]) (by simp [results, Tryd.results31, go_sem, descV, T5.c0, T5.c1, T5.c2, T5.c3]) rfl ⟨_, by rw [hpo5.out]; rfl, by rw [hpo5.out]; exact World.ownsRow_nil _ _ _ _, ?_⟩
                have B0 := hB4.out
                repeat' (first | assumption | apply Below.setCell | apply Below.alloc | apply Below.drew)
                all_goals (first | omega | (simp; done) | (simp; omega))
              | nil =>
                rw [bs_nil] at p0
                by_cases hbad : wd = true ∨ 20 < ts.length
                · have hpo5 : parseD l = (.zero, 5) := by rw [hpo4.out, descEnd, if_neg (by simp), if_pos (by simpa using hbad)]
                  replace hpo5 := Lib.hid hpo5
                  rcases hbad with rfl | hbad
                  · skip
                    go_wp2
                    rw [Exit.noGoto_ret]
                    have T5 := (((hR4.out.set0 (.slice none 0 0)).set1 false).set2 0).set3 ⟨#[]⟩
                    refine bodyPost_ret (v := .tuple #[descV (.slice none 0 0) false 0 ⟨#[]⟩, .int .i64 5]) (by simp [results, Tryd.results31, go_sem, descV, T5.c0, T5.c1, T5.c2, T5.c3]) rfl ⟨_, by rw [hpo5.out]; rfl, by rw [hpo5.out]; exact World.ownsRow_nil _ _ _ _, ?_⟩
                    have B0 := hB4.out
                    repeat' (first | assumption | apply Below.setCell | apply Below.alloc | apply Below.drew)
                    all_goals (first | omega | (simp; done) | (simp; omega))
                  · have hbi : (20 : Int) < (ts.length : Int) := by omega
                    cases wd
                    all_goals
                      go_wp2
                      rw [Exit.noGoto_ret]
                      have T5 := (((hR4.out.set0 (.slice none 0 0)).set1 false).set2 0).set3 ⟨#[]⟩
                      refine bodyPost_ret (v := .tuple #[descV (.slice none 0 0) false 0 ⟨#[]⟩, .int .i64 5]) (by simp [results, Tryd.results31, go_sem, descV, T5.c0, T5.c1, T5.c2, T5.c3]) rfl ⟨_, by rw [hpo5.out]; rfl, by rw [hpo5.out]; exact World.ownsRow_nil _ _ _ _, ?_⟩
                      have B0 := hB4.out
                      repeat' (first | assumption | apply Below.setCell | apply Below.alloc | apply Below.drew)
                      all_goals (first | omega | (simp; done) | (simp; omega))
                · have hpo5 : parseD l = (⟨ts, false, (k : Int), nm⟩, 0) := by rw [hpo4.out, descEnd, if_neg (by simp), if_neg (by simpa using hbad)]
                  replace hpo5 := Lib.hid hpo5
                  obtain ⟨hw, hsm⟩ : wd = false ∧ (ts.length : Int) ≤ 20 := by simp at hbad; exact ⟨hbad.1, by omega⟩
                  subst hw
                  go_wp2
                  rw [Exit.noGoto_ret]
                  have T5 := (((hR4.out.set0 (.slice A ts.length cp)).set1 false).set2 (k : Int)).set3 (bs nm)
                  refine bodyPost_ret (v := .tuple #[descV (.slice A ts.length cp) false (k : Int) (bs nm), .int .i64 0]) (by simp [results, Tryd.results31, go_sem, descV, T5.c0, T5.c1, T5.c2, T5.c3]) rfl ⟨_, by rw [hpo5.out] <;> rfl, ?_, ?_⟩
                  · rw [hpo5.out]
                    have hnB : ∀ kk, (Value.slice A ts.length cp).ownBlock = some kk → w.heap.size + 3 ≤ kk := fun kk h => (hO4.out.lt kk h).1
                    have hnn : (Value.slice A ts.length cp).ownBlock = none ∨ (Value.slice A ts.length cp).ownBlock ≠ some w.heap.size := .inr (by intro e; have := hnB _ e; omega)
                    exact own_mono ((((hO4.out.kept (gb_set _ _ _ _) hnn).kept (gb_set _ _ _ _) hnn).kept (gb_set _ _ _ _) hnn).kept (gb_set _ _ _ _) hnn) (by omega)
                  · have B0 := hB4.out
                    repeat' (first | assumption | apply Below.setCell | apply Below.alloc | apply Below.drew)
                    all_goals (first | omega | (simp; done) | (simp; omega))
          · have hC4 : Cur w3 (w.heap.size + 1) q2.tail (wideL ts) := by have := hC3.out; rwa [left, if_pos t86] at this
            have hpo3 : parseD l = descEnd ⟨ts, true, 0, []⟩ (wideL ts) q2.tail := by rw [hpo2.out, descRet, if_pos t86]
            obtain ⟨A, cp, rfl⟩ := own_shape hO3.out
            go_upto_region 13 with fail
            have gs := gb_set w3 (w.heap.size + 1 + 1) 1 (.bool true)
            have hD4 := hD3.out.set1 true
            have hR4 := hR3.out.kept gs (by simp; omega)
            have hC4 := hC4.kept gs (by simp)
            have hO4 := hO3.out.kept gs (.inr (by intro e; have := (hO3.out.lt _ e).1; omega))
            have hB4 := hB3.out.setCell (p := ⟨w.heap.size + 1 + 1, 1, none⟩) (by simp; omega) (.bool true)
            clear gs hD3 hR3 hC3 hO3 hB3 k1 k2
            generalize w3.setCell ⟨w.heap.size + 1 + 1, 1, none⟩ (.bool true) = W4 at *
            replace hD4 := Lib.hid hD4
            replace hR4 := Lib.hid hR4
            replace hC4 := Lib.hid hC4
            replace hO4 := Lib.hid hO4
            replace hB4 := Lib.hid hB4
            generalize q2.tail = r at *
            generalize wideL ts = wd at *
            have hpo4 := Lib.hid hpo3
            clear hpo3 hpo2
            have h0 := hR4.out.c0
            have h1 := hR4.out.c1
            have h2 := hR4.out.c2
            have h3 := hR4.out.c3
            have f0 := hR4.out.f0
            have f1 := hR4.out.f1
            have f2 := hR4.out.f2
            have f3 := hR4.out.f3
            have d0 := hD4.out.c0
            have d1 := hD4.out.c1
            have d2 := hD4.out.c2
            have d3 := hD4.out.c3
            have p0 := hC4.out.c0
            have p1 := hC4.out.c1
            have hs4 := hR4.out.lt
            cases r with
            | cons x r =>
              have hpo5 : parseD l = (.zero, 4) := by rw [hpo4.out, descEnd, if_pos (by simp)]
              replace hpo5 := Lib.hid hpo5
              have hne : ¬ (bs (x :: r)).toList = [] := by
                rw [ByteArray.toList_eq]
                simp [bs]
              have hie : (bs (x :: r)).toList.isEmpty = false := by
                rw [ByteArray.toList_eq]
                simp [bs]
              generalize bs (x :: r) = sr at *
              go_wp2
              rw [Exit.noGoto_ret]
              have T5 := (((hR4.out.set0 (.slice none 0 0)).set1 false).set2 0).set3 ⟨#[]⟩
              refine bodyPost_ret (v := .tuple #[descV (.slice none 0 0) false 0 ⟨#[]⟩, .int .i64 4]) (by simp [results, Tryd.results31, go_sem, descV, T5.c0, T5.c1, T5.c2, T5.c3]) rfl ⟨_, by rw [hpo5.out]; rfl, by rw [hpo5.out]; exact World.ownsRow_nil _ _ _ _, ?_⟩
              have B0 := hB4.out
              repeat' (first | assumption | apply Below.setCell | apply Below.alloc | apply Below.drew)
              all_goals (first | omega | (simp; done) | (simp; omega))
            | nil =>
              rw [bs_nil] at p0
              by_cases hbad : wd = true ∨ 20 < ts.length
              · have hpo5 : parseD l = (.zero, 5) := by rw [hpo4.out, descEnd, if_neg (by simp), if_pos (by simpa using hbad)]
                replace hpo5 := Lib.hid hpo5
                rcases hbad with rfl | hbad
                · skip
                  go_wp2
                  rw [Exit.noGoto_ret]
                  have T5 := (((hR4.out.set0 (.slice none 0 0)).set1 false).set2 0).set3 ⟨#[]⟩
                  refine bodyPost_ret (v := .tuple #[descV (.slice none 0 0) false 0 ⟨#[]⟩, .int .i64 5]) (by simp [results, Tryd.results31, go_sem, descV, T5.c0, T5.c1, T5.c2, T5.c3]) rfl ⟨_, by rw [hpo5.out]; rfl, by rw [hpo5.out]; exact World.ownsRow_nil _ _ _ _, ?_⟩
                  have B0 := hB4.out
                  repeat' (first | assumption | apply Below.setCell | apply Below.alloc | apply Below.drew)
                  all_goals (first | omega | (simp; done) | (simp; omega))
                · have hbi : (20 : Int) < (ts.length : Int) := by omega
                  cases wd
                  all_goals
                    go_wp2
                    rw [Exit.noGoto_ret]
                    have T5 := (((hR4.out.set0 (.slice none 0 0)).set1 false).set2 0).set3 ⟨#[]⟩
                    refine bodyPost_ret (v := .tuple #[descV (.slice none 0 0) false 0 ⟨#[]⟩, .int .i64 5]) (by simp [results, Tryd.results31, go_sem, descV, T5.c0, T5.c1, T5.c2, T5.c3]) rfl ⟨_, by rw [hpo5.out]; rfl, by rw [hpo5.out]; exact World.ownsRow_nil _ _ _ _, ?_⟩
                    have B0 := hB4.out
                    repeat' (first | assumption | apply Below.setCell | apply Below.alloc | apply Below.drew)
                    all_goals (first | omega | (simp; done) | (simp; omega))
              · have hpo5 : parseD l = (⟨ts, true, 0, []⟩, 0) := by rw [hpo4.out, descEnd, if_neg (by simp), if_neg (by simpa using hbad)]
                replace hpo5 := Lib.hid hpo5
                obtain ⟨hw, hsm⟩ : wd = false ∧ (ts.length : Int) ≤ 20 := by simp at hbad; exact ⟨hbad.1, by omega⟩
                subst hw
                go_wp2
                rw [Exit.noGoto_ret]
                have T5 := (((hR4.out.set0 (.slice A ts.length cp)).set1 true).set2 0).set3 ⟨#[]⟩
                refine bodyPost_ret (v := .tuple #[descV (.slice A ts.length cp) true 0 ⟨#[]⟩, .int .i64 0]) (by simp [results, Tryd.results31, go_sem, descV, T5.c0, T5.c1, T5.c2, T5.c3]) rfl ⟨_, by rw [hpo5.out] <;> rfl, ?_, ?_⟩
                · rw [hpo5.out]
                  have hnB : ∀ kk, (Value.slice A ts.length cp).ownBlock = some kk → w.heap.size + 3 ≤ kk := fun kk h => (hO4.out.lt kk h).1
                  have hnn : (Value.slice A ts.length cp).ownBlock = none ∨ (Value.slice A ts.length cp).ownBlock ≠ some w.heap.size := .inr (by intro e; have := hnB _ e; omega)
                  exact own_mono ((((hO4.out.kept (gb_set _ _ _ _) hnn).kept (gb_set _ _ _ _) hnn).kept (gb_set _ _ _ _) hnn).kept (gb_set _ _ _ _) hnn) (by omega)
                · have B0 := hB4.out
                  repeat' (first | assumption | apply Below.setCell | apply Below.alloc | apply Below.drew)
                  all_goals (first | omega | (simp; done) | (simp; omega))
end Go.Proofs.YtpcdfjifhoofjaaDoor.Ty

/- The walk of types.Args. -/
namespace Go.Proofs.YtpcdfjifhoofjaaDoor.Ty
open Go Go.RowKit Go.Proofs.YtpcdfjifhoofjaaDoor.Nm
set_option linter.unusedVariables false
set_option linter.unusedSimpArgs false
set_option maxHeartbeats 1000000
set_option maxRecDepth 10000

theorem args_any (l : List UInt8) (w : World) (hm : ML w) : Calls Tryd.prog 34 #[.string (bs l)] w fun e w' =>
    e = .returned (.tuple #[.int .i64 (parseD l).1.args.length, .int .i64 (parseD l).2]) ∧ Below w.heap.size w w' := by
  have P := Lib.hid (parsedesc_any l w hm)
  go_enter Tryd.func34, Tryd.ntmps34
  go_wp2_with fail
  refine P.out.mono ?_
  rintro e w3 ⟨v, rfl, hown, hB⟩
  obtain ⟨n, hn⟩ : ∃ n, n = (parseD l).1.args.length := ⟨_, rfl⟩
  rw [← hn] at hown
  replace hn := Lib.hid hn
  obtain ⟨A, cp, rfl⟩ := own_shape hown
  replace hown := Lib.hid hown
  have hs := hB.size
  replace hB := Lib.hid hB
  clear P
  rw [descV]
  go_wp2
  go_ret2
  refine ⟨by rw [← hn.out]; rfl, ?_⟩
  have B0 := hB.out
  repeat' (first | assumption | apply Below.setCell | apply Below.alloc | apply Below.drew)
  all_goals (first | omega | (simp; done) | (simp; omega))
end Go.Proofs.YtpcdfjifhoofjaaDoor.Ty

/- The walks of Check, the program's and the reference's. -/
namespace Go.Proofs.YtpcdfjifhoofjaaDoor.Ty
open Go Go.RowKit Go.Proofs.YtpcdfjifhoofjaaDoor.Nm
set_option linter.unusedVariables false
set_option linter.unusedSimpArgs false
set_option maxHeartbeats 1000000
set_option maxRecDepth 10000

def chk (d : Int) (nm : List UInt8) : Int := if d < 0 ∨ 255 < d then 1 else if nm ≠ [] ∧ validB (bs nm) = false then 1 else 0
theorem check_any (d : Int) (nm : List UInt8) (w : World) (hm : ML w) : Calls Tryd.prog 43 #[tyV d nm] w fun e w' => e = .returned (.int .i64 (chk d nm)) ∧ Below w.heap.size w w' := by
  have B0 := Lib.hid ((Below.refl w.heap.size w).alloc (Nat.le_refl _) (.cells #[.int .i64 d, .string (bs nm)] 37))
  have V := Lib.hid (valid_any (bs nm) (w.alloc (.cells #[.int .i64 d, .string (bs nm)] 37)) (hm.below (gb_none (World.grownBy_alloc w _ none))))
  clear hm
  have hne : nm ≠ [] → ¬ (bs nm).toList = [] ∧ (bs nm).toList.isEmpty = false := by
    intro h
    rw [ByteArray.toList_eq, mk_toList]
    exact ⟨h, by cases nm with | nil => exact absurd rfl h | cons => rfl⟩
  have hc : chk d nm = if d < 0 ∨ 255 < d then 1 else if nm ≠ [] ∧ validB (bs nm) = false then 1 else 0 := rfl
  replace hc := Lib.hid hc
  by_cases hd : d < 0 ∨ 255 < d
  · have h1 : chk d nm = 1 := by rw [hc.out, if_pos hd]
    rw [h1]
    clear hne V
    go_enter Tryd.func43, Tryd.ntmps43
    rw [tyV]
    rcases hd with hd | hd
    all_goals
      go_wp2
      go_ret
      exact ⟨rfl, B0.out⟩
  · have hd1 : 0 ≤ d := by omega
    have hd2 : d ≤ 255 := by omega
    clear hd
    cases nm with
    | nil =>
      have h1 : chk d [] = 0 := by rw [hc.out, if_neg (by omega), if_neg (by simp)]
      rw [h1]
      clear hne V hc
      rw [tyV, bs_nil]
      rw [bs_nil] at B0
      go_enter Tryd.func43, Tryd.ntmps43
      go_wp2
      go_ret
      exact ⟨rfl, B0.out⟩
    | cons x r =>
      obtain ⟨n1, n2⟩ := hne (by simp)
      cases hv : validB (bs (x :: r))
      · have h1 : chk d (x :: r) = 1 := by rw [hc.out, if_neg (by omega), if_pos ⟨by simp, hv⟩]
        rw [h1, tyV]
        rw [hv] at V
        clear hc hv hne
        generalize bs (x :: r) = s at *
        go_enter Tryd.func43, Tryd.ntmps43
        go_wp2_with (go_at_call 15; refine V.out.mono ?_; rintro e w3 ⟨rfl, hb⟩; replace hb := Lib.hid hb)
        go_ret
        exact ⟨rfl, B0.out.trans (hb.out.mono (by simp))⟩
      · have h1 : chk d (x :: r) = 0 := by rw [hc.out, if_neg (by omega), if_neg (by simp [hv])]
        rw [h1, tyV]
        rw [hv] at V
        clear hc hv hne
        generalize bs (x :: r) = s at *
        go_enter Tryd.func43, Tryd.ntmps43
        go_wp2_with (go_at_call 15; refine V.out.mono ?_; rintro e w3 ⟨rfl, hb⟩; replace hb := Lib.hid hb)
        go_ret
        exact ⟨rfl, B0.out.trans (hb.out.mono (by simp))⟩
end Go.Proofs.YtpcdfjifhoofjaaDoor.Ty

/- The walk of arbiterref02.Same. -/
namespace Go.Proofs.YtpcdfjifhoofjaaDoor.Ty
open Go Go.RowKit Go.Proofs.YtpcdfjifhoofjaaDoor.Nm
set_option linter.unusedVariables false
set_option linter.unusedSimpArgs false
set_option maxHeartbeats 1000000
set_option maxRecDepth 10000

theorem same_any (d1 d2 : Int) (n1 n2 : List UInt8) (w : World) : Calls Tryd.prog 28 #[tyV d1 n1, tyV d2 n2] w fun e w' =>
    e = .returned (.bool (decide (d1 = d2 ∧ n1 = n2))) ∧ Below w.heap.size w w' := by
  have hn : (bs n1).toList = (bs n2).toList ↔ n1 = n2 := by
    rw [ByteArray.toList_eq, ByteArray.toList_eq, mk_toList, mk_toList]
  have B0 := Below.refl w.heap.size w
  replace hn := Lib.hid hn
  rw [tyV, tyV]
  generalize bs n1 = s1 at *
  generalize bs n2 = s2 at *
  go_enter Tryd.func28, Tryd.ntmps28
  go_wp2
  all_goals
    go_ret
    refine ⟨ret_bool ?_, ?_⟩
    · have h := hn.out
      rw [Bool.eq_iff_iff]
      simp_all
    · repeat' (first | assumption | apply Below.setCell | apply Below.alloc | apply Below.drew)
      all_goals (first | omega | (simp; done) | (simp; omega))
end Go.Proofs.YtpcdfjifhoofjaaDoor.Ty

/- What the walks by hand say of types and names, in the form that the printed texts ask for. -/
namespace Go.Proofs.YtpcdfjifhoofjaaDoor.Pt
open Go Go.RowKit Go.Proofs.YtpcdfjifhoofjaaDoor.Nm Go.Proofs.YtpcdfjifhoofjaaDoor.Ty Go.Proofs.YtpcdfjifhoofjaaDoorW.PrintWords Go.Proofs.YtpcdfjifhoofjaaDoorW.PrintLast Go.Proofs.YtpcdfjifhoofjaaDoorW.PrintMore
set_option linter.unusedVariables false
set_option linter.unusedSimpArgs false

def tup3 (p : Int × List UInt8 × Int) : Int × ByteArray × Int := (p.1, bs p.2.1, p.2.2)
def tup2 (p : List UInt8 × Int) : ByteArray × Int := (bs p.1, p.2)
theorem len_data (s : ByteArray) : s.data.toList.length = s.size := by rw [Array.length_toList]; rfl
theorem small_of {a : ByteArray} (h : a.size < 4294967281) : a.data.toList.length < 4294967281 := by have e := len_data a; omega
theorem some_inj3 {a b c : Type} {p : a × b × c} {x : a} {y : b} {z : c} (h : some p = some (x, y, z)) : p.1 = x ∧ p.2.1 = y ∧ p.2.2 = z := by cases h; exact ⟨rfl, rfl, rfl⟩
theorem some_inj2 {a b : Type} {p : a × b} {x : a} {y : b} (h : some p = some (x, y)) : p.1 = x ∧ p.2 = y := by cases h; exact ⟨rfl, rfl⟩
theorem if_some {c : Prop} [Decidable c] {α : Type} {x y : α} (h : (if c then some x else none) = some y) : c ∧ some x = some y := by
  split at h
  · exact ⟨by assumption, h⟩
  · cases h

def types_Parse.f (a0 : ByteArray) : Option (Int × ByteArray × Int) := some (tup3 (parseT a0.data.toList))
theorem types_Parse.calls (a0 : ByteArray) (r1 : Int) (r2 : ByteArray) (r3 : Int) (w : World) (h : types_Parse.f a0 = some (r1, r2, r3)) :
    Calls Tryd.prog 26 #[.string a0] w fun e w' => e = .returned (.tuple #[.agg #[.int .i64 r1, .string r2], .int .i64 r3]) ∧ Below w.heap.size w w' := by
  unfold types_Parse.f at h
  obtain ⟨rfl, rfl, rfl⟩ := some_inj3 h
  have C := parse_any a0.data.toList w trivial
  rw [mk_data] at C
  exact C
def types_ParseRef.f (a0 : ByteArray) : Option (Int × ByteArray × Int) := some (tup3 (parseR a0.data.toList))
theorem types_ParseRef.calls (a0 : ByteArray) (r1 : Int) (r2 : ByteArray) (r3 : Int) (w : World) (h : types_ParseRef.f a0 = some (r1, r2, r3)) :
    Calls Tryd.prog 29 #[.string a0] w fun e w' => e = .returned (.tuple #[.agg #[.int .i64 r1, .string r2], .int .i64 r3]) ∧ Below w.heap.size w w' := by
  unfold types_ParseRef.f at h
  obtain ⟨rfl, rfl, rfl⟩ := some_inj3 h
  have C := parseref_any a0.data.toList w trivial
  rw [mk_data] at C
  exact C
def types_Check.f (a0_0 : Int) (a0_1 : ByteArray) : Option Int := some (chk a0_0 a0_1.data.toList)
theorem types_Check.calls (a0_0 : Int) (a0_1 : ByteArray) (r : Int) (w : World) (h : types_Check.f a0_0 a0_1 = some r) :
    Calls Tryd.prog 43 #[.agg #[.int .i64 a0_0, .string a0_1]] w fun e w' => e = .returned (.int .i64 r) ∧ Below w.heap.size w w' := by
  unfold types_Check.f at h
  obtain rfl := Option.some.inj h
  have C := check_any a0_0 a0_1.data.toList w trivial
  rw [tyV, mk_data] at C
  exact C
def arbiterref02_Same.f (a0_0 : Int) (a0_1 : ByteArray) (a1_0 : Int) (a1_1 : ByteArray) : Option Bool := some (decide (a0_0 = a1_0 ∧ a0_1.data.toList = a1_1.data.toList))
theorem arbiterref02_Same.calls (a0_0 : Int) (a0_1 : ByteArray) (a1_0 : Int) (a1_1 : ByteArray) (r : Bool) (w : World) (h : arbiterref02_Same.f a0_0 a0_1 a1_0 a1_1 = some r) :
    Calls Tryd.prog 28 #[.agg #[.int .i64 a0_0, .string a0_1], .agg #[.int .i64 a1_0, .string a1_1]] w fun e w' => e = .returned (.bool r) ∧ Below w.heap.size w w' := by
  unfold arbiterref02_Same.f at h
  obtain rfl := Option.some.inj h
  have C := same_any a0_0 a1_0 a0_1.data.toList a1_1.data.toList w
  rw [tyV, tyV, mk_data, mk_data] at C
  exact C
/-- A type as the printed texts have it. -/
def toS (p : Nat × List UInt8) : S37 := ⟨p.1, bs p.2⟩
theorem reps_ty {w : World} {base : Nat} {ok : Nat → Prop} (ts : List (Nat × List UInt8)) : Reps (k37.M w base ok) 2 (ts.map toS) (tyCells ts) := by
  refine ⟨?_, fun j p hj => ?_⟩
  · induction ts with
    | nil => rfl
    | cons a ts ih => simp only [tyCells, List.flatMap_cons, List.length_append, List.map_cons, List.length_cons, List.length_nil] at ih ⊢; omega
  · rw [List.getElem?_map] at hj
    obtain ⟨a, ha, rfl⟩ := Option.map_eq_some_iff.1 hj
    have e : ((tyCells ts).drop (j * 2)).take 2 = [.int .i64 (a.1 : Int), .string (bs a.2)] := by
      clear hj
      induction ts generalizing j with
      | nil => simp at ha
      | cons b ts ih =>
        cases j with
        | zero => simp at ha; subst ha; simp [tyCells]
        | succ j =>
          simp at ha
          have := ih j ha
          rw [show (j + 1) * 2 = j * 2 + 2 from by omega]
          simpa [tyCells] using this
    rw [e]
    exact k37_mkM w base ok (toS a)
theorem own_R {w' : World} {base : Nat} {v : Value} {ts : List (Nat × List UInt8)} (h : w'.ownsRow base 37 2 v ts.length (tyCells ts)) : Kd.R k37 37 w' base (fun _ => True) v (ts.map toS) :=
  ⟨fun _ _ => trivial, tyCells ts, by rw [List.length_map]; exact h, reps_ty ts⟩
def tup5 (p : DescR × Int) : (List S37) × Bool × Int × ByteArray × Int := (p.1.args.map toS, p.1.void, p.1.rdims, bs p.1.rname, p.2)
def types_ParseDesc.f (a0 : ByteArray) : Option ((List S37) × Bool × Int × ByteArray × Int) := some (tup5 (parseD a0.data.toList))
theorem types_ParseDesc.calls (a0 : ByteArray) (r1 : List S37) (r2 : Bool) (r3 : Int) (r4 : ByteArray) (r5 : Int) (w : World) (h : types_ParseDesc.f a0 = some (r1, r2, r3, r4, r5)) :
    Calls Tryd.prog 31 #[.string a0] w fun e w' => ∃ v0_ : Value, e = .returned (.tuple #[.agg #[v0_, .bool r2, .int .i64 r3, .string r4], .int .i64 r5]) ∧ Kd.R k37 37 w' w.heap.size (fun _ => True) v0_ r1 ∧ Below w.heap.size w w' := by
  unfold types_ParseDesc.f at h
  have h1 : tup5 (parseD a0.data.toList) = (r1, r2, r3, r4, r5) := Option.some.inj h
  simp only [tup5, Prod.mk.injEq] at h1
  obtain ⟨rfl, rfl, rfl, rfl, rfl⟩ := h1
  have C := parsedesc_any a0.data.toList w trivial
  rw [mk_data] at C
  refine C.mono ?_
  rintro e w' ⟨v, rfl, hown, hB⟩
  exact ⟨v, rfl, own_R hown, hB⟩
def types_Args.f (a0 : ByteArray) : Option (Int × Int) := some (((parseD a0.data.toList).1.args.length : Int), (parseD a0.data.toList).2)
theorem types_Args.calls (a0 : ByteArray) (r1 : Int) (r2 : Int) (w : World) (h : types_Args.f a0 = some (r1, r2)) :
    Calls Tryd.prog 34 #[.string a0] w fun e w' => e = .returned (.tuple #[.int .i64 r1, .int .i64 r2]) ∧ Below w.heap.size w w' := by
  unfold types_Args.f at h
  obtain ⟨rfl, rfl⟩ := some_inj2 h
  have C := args_any a0.data.toList w trivial
  rw [mk_data] at C
  exact C
def names_Valid.f (a0 : ByteArray) : Option Bool := some (validB a0)
theorem names_Valid.calls (a0 : ByteArray) (r : Bool) (w : World) (h : names_Valid.f a0 = some r) :
    Calls Tryd.prog 15 #[.string a0] w fun e w' => e = .returned (.bool r) ∧ Below w.heap.size w w' := by
  unfold names_Valid.f at h
  obtain rfl := Option.some.inj h
  exact valid_any a0 w trivial
end Go.Proofs.YtpcdfjifhoofjaaDoor.Pt

/- The walks of names.Simple, Compare. -/
namespace Go.Proofs.YtpcdfjifhoofjaaDoor.Nm
open Go Go.RowKit
set_option linter.unusedVariables false
set_option linter.unusedSimpArgs false
set_option maxHeartbeats 400000

theorem simple_any (s : ByteArray) (hs : s.size < 4611686018427387904) (w : World) : Calls Tryd.prog 18 #[.string s] w fun e w' => e = .returned (.string (simpleB s)) ∧ w' = w := by
  have L : Calls Tryd.prog 59 #[.string s, .int .u8 47] w fun e w' => e = .returned (.int .i64 (slash s)) ∧ w' = w := Tryd.strings_LastIndexByte s 47 hs w
  replace L := Lib.hid L
  have hb := slash_bd s
  have hfin : simpleB s = s.extract (slash s + 1).toNat s.size := rfl
  generalize slash s = i at *
  replace hfin := Lib.hid hfin
  go_enter Tryd.func18, Tryd.ntmps18
  go_wp2_with (go_at_call 59; refine L.out.mono ?_; rintro e w1 ⟨rfl, rfl⟩)
  go_ret
  exact ⟨by rw [hfin.out]; rfl, rfl⟩

theorem isNaN_any (s : ByteArray) (w : World) : Calls Tryd.prog 91 #[.string s] w fun e w' => e = .returned (.bool false) ∧ w' = w := by
  go_enter Tryd.func91, Tryd.ntmps91
  go_wp2
  go_ret
  exact ⟨by simp, rfl⟩
/-- The order of two texts: -1, 0, 1. -/
def cmpS (a b : ByteArray) : Int := if Op.bytesLess a.toList b.toList then -1 else if a.toList == b.toList then 0 else 1
theorem cmpStr_any (a b : ByteArray) (w : World) : Calls Tryd.prog 81 #[.string a, .string b] w fun e w' => e = .returned (.int .i64 (cmpS a b)) ∧ w' = w := by
  go_enter Tryd.func81, Tryd.ntmps81
  go_wp2_with (go_at_call 91; refine (isNaN_any _ _).mono ?_; rintro e w1 ⟨rfl, rfl⟩)
  all_goals
    go_ret
    refine ⟨ret_int ?_, rfl⟩
    simp_all [cmpS]
/-- slices.Compare -/
def cmpL : List ByteArray → List ByteArray → Int
  | [], [] => 0
  | [], _ :: _ => -1
  | _ :: _, [] => 1
  | a :: l, b :: m => if cmpS a b = 0 then cmpL l m else cmpS a b
theorem cmpL_drop (l m : List ByteArray) (k : Nat) (a b : ByteArray) (ha : l[k]? = some a) (hb : m[k]? = some b) : cmpL (l.drop k) (m.drop k) = if cmpS a b = 0 then cmpL (l.drop (k + 1)) (m.drop (k + 1)) else cmpS a b := by
  obtain ⟨h1, rfl⟩ := List.getElem?_eq_some_iff.1 ha
  obtain ⟨h2, rfl⟩ := List.getElem?_eq_some_iff.1 hb
  rw [List.drop_eq_getElem_cons h1, List.drop_eq_getElem_cons h2, cmpL]
theorem cmpL_end1 (l m : List ByteArray) (k : Nat) (h1 : k < l.length) (h2 : m.length ≤ k) : cmpL (l.drop k) (m.drop k) = 1 := by
  rw [List.drop_eq_getElem_cons h1, List.drop_of_length_le h2, cmpL]
theorem cmpL_end2 (l m : List ByteArray) (k : Nat) (h1 : l.length ≤ k) (h2 : k < m.length) : cmpL (l.drop k) (m.drop k) = -1 := by
  rw [List.drop_eq_getElem_cons h2, List.drop_of_length_le h1, cmpL]
theorem cmpL_end0 (l m : List ByteArray) (k : Nat) (h1 : l.length ≤ k) (h2 : m.length ≤ k) : cmpL (l.drop k) (m.drop k) = 0 := by
  rw [List.drop_of_length_le h2, List.drop_of_length_le h1, cmpL]

theorem sliceCompare_any (l m : List ByteArray) (hl : l.length ≤ 4611686018427387904) (hm : m.length ≤ 4611686018427387904) (b1 o1 c1 b2 o2 c2 : Nat) (w : World) (r1 : RdS w b1 o1 l) (r2 : RdS w b2 o2 m) :
    Calls Tryd.prog 61 #[.slice (some ⟨b1, o1, none⟩) l.length c1, .slice (some ⟨b2, o2, none⟩) m.length c2] w fun e w' => e = .returned (.int .i64 (cmpL l m)) ∧ w' = w := by
  replace r1 := Lib.hid r1
  replace r2 := Lib.hid r2
  go_enter Tryd.func61, Tryd.ntmps61
  go_wp2
  go_loop [11] (fun i => ∃ k : Nat, k ≤ l.length ∧ k ≤ m.length ∧ i = .int .i64 k ∧ Hid (cmpL l m = cmpL (l.drop k) (m.drop k))) (fun i => l.length - (intOf i).toNat)
  case atStart => exact ⟨0, Nat.zero_le _, Nat.zero_le _, rfl, rfl⟩
  case round =>
    obtain ⟨k, hk1, hk2, rfl, hc⟩ := hrel
    by_cases hlt1 : k < l.length
    · obtain ⟨x, hx⟩ : ∃ x, l[k]? = some x := ⟨_, List.getElem?_eq_getElem hlt1⟩
      have cx := r1.out k x hx
      by_cases hlt2 : k < m.length
      · obtain ⟨y, hy⟩ : ∃ y, m[k]? = some y := ⟨_, List.getElem?_eq_getElem hlt2⟩
        have cy := r2.out k y hy
        have hd := Lib.hid (cmpL_drop l m k x y hx hy)
        clear hx hy
        go_wp2_with (go_at_call 81; refine (cmpStr_any _ _ _).mono ?_; rintro e w1 ⟨rfl, rfl⟩)
        · have hne : cmpS x y ≠ 0 := by simp_all
          go_ret
          exact ⟨ret_int (by rw [hc.out, hd.out, if_neg hne]), rfl⟩
        · have hne : cmpS x y = 0 := by simp_all
          go_round
          case rel => exact ⟨k + 1, by omega, by omega, by go_num, by show _ = _; rw [hc.out, hd.out, if_pos hne]⟩
          case measure => simp [intOf]; omega
      · have hd := Lib.hid (cmpL_end1 l m k hlt1 (by omega))
        clear hx
        go_wp2
        go_ret
        exact ⟨ret_int (by rw [hc.out, hd.out]), rfl⟩
    · by_cases hlt2 : k < m.length
      · have hd := Lib.hid (cmpL_end2 l m k (by omega) hlt2)
        go_wp2
        go_ret
        exact ⟨ret_int (by rw [hc.out, hd.out]), rfl⟩
      · have hd := Lib.hid (cmpL_end0 l m k (by omega) (by omega))
        go_wp2
        go_ret
        exact ⟨ret_int (by rw [hc.out, hd.out]), rfl⟩

theorem compare_any (a b : ByteArray) (ha : a.size < 4294967281) (hb : b.size < 4294967281) (w : World) (hm : ML w) : Calls Tryd.prog 19 #[.string a, .string b] w fun e w' => e = .returned (.int .i64 (cmpL (partsB a) (partsB b))) ∧ Below w.heap.size w w' := by
  have b1 : Below w.heap.size w (w.alloc (.cells (strC (partsB a)) 9)) := (Below.refl _ _).alloc (Nat.le_refl _) _
  have P1 := Lib.hid (parts_any a ha w hm)
  have P2 := Lib.hid (parts_any b hb _ (hm.below b1))
  have b2 : Below (w.alloc (.cells (strC (partsB a)) 9)).heap.size (w.alloc (.cells (strC (partsB a)) 9)) ((w.alloc (.cells (strC (partsB a)) 9)).alloc (.cells (strC (partsB b)) 9)) := (Below.refl _ _).alloc (Nat.le_refl _) _
  have hla := partsB_le a
  have hlb := partsB_le b
  have e1 : (w.alloc (.cells (strC (partsB a)) 9)).heap.size = w.heap.size + 1 := by simp
  have R2 := RdS.new (w.alloc (.cells (strC (partsB a)) 9)) (partsB b) 9
  rw [e1] at R2
  have C := Lib.hid (sliceCompare_any (partsB a) (partsB b) (by omega) (by omega) w.heap.size 0 (partsB a).length (w.heap.size + 1) 0 (partsB b).length _ ((RdS.new w (partsB a) 9).below b2) R2)
  have B := Lib.hid (bl_trans b1 b2)
  clear hm b1 b2 e1 R2
  go_enter Tryd.func19, Tryd.ntmps19
  go_wp2_with (go_at_call 17; refine P1.out.mono ?_; clear P1; rintro e w1 ⟨rfl, rfl⟩)
  refine P2.out.mono ?_
  clear P2
  rintro e w1 ⟨rfl, rfl⟩
  go_wp2_with (go_at_call 61; refine C.out.mono ?_; rintro e w1 ⟨rfl, rfl⟩)
  go_ret
  exact ⟨rfl, B.out⟩
end Go.Proofs.YtpcdfjifhoofjaaDoor.Nm

/- The walks of arbiterref01: letter, Part, Parts, Valid, Member, last, Package, Simple. -/
namespace Go.Proofs.YtpcdfjifhoofjaaDoor.Nm
open Go Go.RowKit
set_option linter.unusedVariables false
set_option linter.unusedSimpArgs false
set_option maxHeartbeats 400000
set_option maxRecDepth 10000

theorem letB_digit (n : Int) : letB n false = (letB n true || decide (48 ≤ n ∧ n ≤ 57)) := by simp [letB]
theorem letB_true (n : Int) : letB n true = true ↔ ((97 ≤ n ∧ n ≤ 122) ∨ (65 ≤ n ∧ n ≤ 90) ∨ n = 95 ∨ n = 36) := by simp [letB, or_assoc]
theorem letB_any (n : Int) (b : Bool) (h : letB n true = true) : letB n b = true := by cases b <;> simp_all [letB]
theorem letB_digit' (n : Int) (h : ¬ letB n true = true) (h2 : n < 48 ∨ 57 < n) : letB n false = false := by
  have h := eq_false_of_ne_true h
  rw [letB_digit, h]
  simp
  omega
theorem isEmpty_size (s : ByteArray) : s.toList.isEmpty = decide (s.size = 0) := by
  rw [ByteArray.toList_eq, Bool.eq_iff_iff]
  simp only [List.isEmpty_iff, decide_eq_true_eq]
  rw [← List.length_eq_zero_iff, Array.length_toList]
  exact Iff.rfl
theorem rletter_any (n : Int) (h0 : 0 ≤ n) (h1 : n ≤ 255) (w : World) : Calls Tryd.prog 83 #[.int .u8 n] w fun e w' => e = .returned (.bool (letB n true)) ∧ w' = w := by
  go_enter Tryd.func83, Tryd.ntmps83
  go_wp2
  all_goals
    go_ret
    refine ⟨ret_bool ?_, rfl⟩
    rw [Bool.eq_iff_iff, letB_true]
    simp_all
  all_goals omega

theorem rpart_any (s : ByteArray) (hs : s.size ≤ 4611686018427387904) (w : World) : Calls Tryd.prog 63 #[.string s] w fun e w' => e = .returned (.bool (partB s)) ∧ w' = w := by
  go_enter Tryd.func63, Tryd.ntmps63
  go_wp2
  go_loop [3] (fun i => ∃ k : Nat, k ≤ s.size ∧ i = .int .i64 k ∧ lets s k = true) (fun i => s.size - (intOf i).toNat)
  case atStart => exact ⟨0, Nat.zero_le _, rfl, rfl⟩
  case round =>
    obtain ⟨k, hk, rfl, hl⟩ := hrel
    replace hl := Lib.hid hl
    by_cases hlt : k < s.size
    · have hb := bt_at s k hlt
      have hr := bt_range s k
      have hsn := lets_succ s k
      generalize hbk : bt s k = n at *
      replace hbk := Lib.hid hbk
      replace hsn := Lib.hid hsn
      have hno : ∀ b : Bool, b = ((k : Int) == 0) → letB n b = false → partB s = false := fun b e h => by rw [partB, lets_false s k s.size hlt (by rw [hbk.out, ← e]; exact h)]; rfl
      replace hno := Lib.hid hno
      go_wp2_with (go_at_call 83; refine (rletter_any _ (by omega) (by omega) _).mono ?_; rintro e w1 ⟨rfl, rfl⟩)
      · have hL : letB n true = true := by assumption
        go_round
        case rel => exact ⟨k + 1, by omega, by go_num, by rw [hsn.out, hl.out, letB_any n _ hL]; rfl⟩
        case measure => simp [intOf]; omega
      · have hL : ¬ letB n true = true := by assumption
        have hk0 : k = 0 := by assumption
        go_ret
        exact ⟨ret_bool (hno.out true (by rw [hk0]; rfl) (eq_false_of_ne_true hL)).symm, rfl⟩
      · have hL : ¬ letB n true = true := by assumption
        have hk0 : ¬ k = 0 := by assumption
        have hd : ((((k : Int) == 0) = true ∨ n < 48) ∨ 57 < n) := by assumption
        have hk1 : ((k : Int) == 0) = false := beq_eq_false_iff_ne.2 (by omega)
        rw [hk1] at hd
        go_ret
        exact ⟨ret_bool (hno.out false hk1.symm (letB_digit' n hL (by simp at hd; omega))).symm, rfl⟩
      · have hk0 : ¬ k = 0 := by assumption
        have hd : ((((k : Int) == 0) = false ∧ 48 ≤ n) ∧ n ≤ 57) := by assumption
        go_round
        case rel => exact ⟨k + 1, by omega, by go_num, by rw [hsn.out, hl.out, hd.1.1, letB_digit]; simp; omega⟩
        case measure => simp [intOf]; omega
      · have hL : ¬ letB n true = true := by assumption
        have hk0 : ¬ k = 0 := by assumption
        have hk1 : ((k : Int) == 0) = false := beq_eq_false_iff_ne.2 (by omega)
        have hd : n < 48 := by assumption
        go_ret
        exact ⟨ret_bool (hno.out false hk1.symm (letB_digit' n hL (by omega))).symm, rfl⟩
    · obtain rfl : k = s.size := by omega
      go_wp2
      go_ret
      exact ⟨ret_bool (by rw [partB, hl.out, isEmpty_size, Bool.eq_iff_iff]; simp only [decide_eq_true_eq, Bool.true_and, Bool.not_eq_true', decide_eq_false_iff_not]; omega), rfl⟩

theorem strsT : (Tryd.prog.info? 9).map (fun i => (i.zero, i.size, i.bytes)) = some (some (.string ⟨#[]⟩), 1, 16) := by kernel_rfl
def strL (l : List ByteArray) : List Value := l.map Value.string
theorem strL_snoc (l : List ByteArray) (x : ByteArray) : strL (l ++ [x]) = strL l ++ [.string x] := by simp [strL]
theorem RdS_own {w : World} {base g cap n : Nat} {e : TypeId} {l : List ByteArray} (h : w.ownsRow base e 1 (.slice (some ⟨g, 0, none⟩) n cap) n (strL l)) : RdS w g 0 l := by
  intro j x hx
  rw [Nat.zero_add]
  exact own_cell h j _ (by simp [strL, hx])

theorem rparts_any (s : ByteArray) (hs : s.size ≤ 4294967296) (w : World) : Calls Tryd.prog 24 #[.string s] w fun e w' =>
    (∃ g cap, e = .returned (.slice (some ⟨g, 0, none⟩) (partsB s).length cap) ∧ w'.ownsRow w.heap.size 9 1 (.slice (some ⟨g, 0, none⟩) (partsB s).length cap) (partsB s).length (strL (partsB s))) ∧ Below w.heap.size w w' := by
  go_enter Tryd.func24, Tryd.ntmps24
  go_wp2
  go_loopw [3, 4, 5] (fun v fr i wr => ∃ k : Nat, k ≤ s.size ∧ i = .int .i64 k ∧ fr = .int .i64 (rparts s k).2 ∧ wr.ownsRow w.heap.size 9 1 v (rparts s k).1.length (strL (rparts s k).1) ∧ Below w.heap.size w wr) (fun _ _ i _ => s.size - (intOf i).toNat)
  case atStart => exact ⟨0, Nat.zero_le _, rfl, rfl, World.ownsRow_nil _ _ _ _, Below.refl _ _⟩
  case round =>
    obtain ⟨k, hk, rfl, rfl, hown, hB⟩ := hrel
    have HO := Lib.hid hown
    have HB := Lib.hid hB
    have hsz := hB.size
    have hle := rparts_le s k
    clear hown hB
    by_cases hlt : k < s.size
    · have hb := bt_at s k hlt
      have hsn := rparts_succ s k
      generalize hbk : bt s k = n at *
      generalize hrk : rparts s k = lk at *
      obtain ⟨l, f⟩ := lk
      simp only at hle HO
      replace hsn := Lib.hid hsn
      clear hbk hrk
      have hfk : (f : Int) ≤ (k : Int) := by omega
      have hks : (k : Int) ≤ (s.size : Int) := by omega
      go_wp2_with (at_builtin; go_loud (refine append1 w.heap.size rfl _ _ _ 9 (.string ⟨#[]⟩) 1 16 rfl Tryd.underlying25 strsT rfl (by decide) _ _ _ [.string (s.extract f k)] rfl _ (by simp) rfl rfl (by simp [Value.oneCell']) (by exact HO.out) (by omega) (by omega) (by omega) ?_); intro v1 w1 hown1 hg1)
      · have hn : n = 47 := by simp_all
        have hown2 : w1.ownsRow w.heap.size 9 1 v1 (l ++ [s.extract f k]).length (strL (l ++ [s.extract f k])) := by rw [strL_snoc]; simpa using hown1
        go_roundw
        case rel => exact ⟨k + 1, by omega, by go_num, by rw [hsn.out, if_pos hn]; go_num, by rw [hsn.out, if_pos hn]; exact hown2, HB.out.grown hg1 (by omega) (own_base HO.out)⟩
        case measure => simp [intOf]; omega
      · have hn : ¬ n = 47 := by simp_all
        go_roundw
        case rel => exact ⟨k + 1, by omega, by go_num, by rw [hsn.out, if_neg hn], by rw [hsn.out, if_neg hn]; exact HO.out, HB.out⟩
        case measure => simp [intOf]; omega
    · obtain rfl : k = s.size := by omega
      have hall := rparts_all s
      generalize hrk : rparts s s.size = lk at *
      obtain ⟨l, f⟩ := lk
      simp only at hle HO hall
      have hf : (f : Int) ≤ (s.size : Int) := by omega
      replace hall := Lib.hid hall
      clear hrk
      go_wp2_with (at_builtin; go_loud (refine append1 w.heap.size rfl _ _ _ 9 (.string ⟨#[]⟩) 1 16 rfl Tryd.underlying25 strsT rfl (by decide) _ _ _ [.string (s.extract f s.size)] rfl _ (by simp) rfl rfl (by simp [Value.oneCell']) (by exact HO.out) (by omega) (by omega) (by omega) ?_); intro v1 w1 hown1 hg1)
      have hown2 : w1.ownsRow w.heap.size 9 1 v1 (l ++ [s.extract f s.size]).length (strL (l ++ [s.extract f s.size])) := by rw [strL_snoc]; simpa using hown1
      rw [hall.out] at hown2
      obtain ⟨g, cap, rfl, _, _⟩ := hown2.form (by rw [partsB_len]; omega)
      go_ret
      exact ⟨⟨g, cap, rfl, hown2⟩, HB.out.grown hg1 (by omega) (own_base HO.out)⟩

theorem rvalid_any (s : ByteArray) (w : World) : Calls Tryd.prog 36 #[.string s] w fun e w' => e = .returned (.bool (validB s)) ∧ Below w.heap.size w w' := by
  by_cases h60 : s.size ≤ 60
  · have P := Lib.hid (rparts_any s (by omega) w)
    have hle := partsB_le s
    have hxs : Hid (∀ x ∈ partsB s, x.size ≤ 4611686018427387904) := fun x hx => by have := partsB_size s x hx; omega
    have hfin : Hid (validB s = (partsB s).all partB) := by show _ = _; simp [validB, h60]
    generalize partsB s = l at *
    go_enter Tryd.func36, Tryd.ntmps36
    go_wp2_with (go_at_call 24; refine P.out.mono ?_; rintro e w1 ⟨⟨g, cap, rfl, hown⟩, hbl⟩; have hr := Lib.hid (RdS_own hown); clear hown; replace hbl := Lib.hid hbl)
    go_loop [4] (fun i => ∃ k : Nat, k ≤ l.length ∧ i = .int .i64 k ∧ Hid (∀ j, j < k → ∀ x, l[j]? = some x → partB x = true)) (fun i => l.length - (intOf i).toNat)
    case atStart => exact ⟨0, Nat.zero_le _, rfl, fun j hj => absurd hj (by omega)⟩
    case round =>
      obtain ⟨k, hk, rfl, hp⟩ := hrel
      by_cases hlt : k < l.length
      · obtain ⟨x, hx⟩ : ∃ x, l[k]? = some x := ⟨_, List.getElem?_eq_getElem hlt⟩
        have hcell := hr.out k x hx
        rw [Nat.zero_add] at hcell
        have V := Lib.hid (rpart_any x (hxs.out x (List.mem_of_getElem? hx)) w1)
        replace hx := Lib.hid hx
        go_wp2_with (go_at_call 63; refine V.out.mono ?_; rintro e w2 ⟨rfl, rfl⟩)
        · have hf : partB x = false := by simp_all
          go_ret
          exact ⟨ret_bool (by rw [hfin.out, bad_at l k x hx.out hf]), hbl.out⟩
        · have hf : partB x = true := by simp_all
          go_round
          case rel => exact ⟨k + 1, by omega, by go_num, fun j hj y hy => by
            by_cases e : j = k
            · subst e
              rw [hx.out] at hy
              cases hy
              exact hf
            · exact hp.out j (by omega) y hy⟩
          case measure => simp [intOf]; omega
      · go_wp2
        go_ret
        exact ⟨ret_bool (by rw [hfin.out, badFrom_all l k hp.out (by omega)]), hbl.out⟩
  · have hfin : Hid (validB s = false) := by show _ = _; simp [validB, h60]
    go_enter Tryd.func36, Tryd.ntmps36
    go_wp2_with fail
    go_ret
    exact ⟨ret_bool hfin.out.symm, Below.refl _ _⟩

theorem rmember_any (s : ByteArray) (w : World) : Calls Tryd.prog 37 #[.string s] w fun e w' => e = .returned (.bool (memberB s)) ∧ w' = w := by
  by_cases h60 : s.size ≤ 60
  · have P := Lib.hid (rpart_any s (by omega) w)
    go_enter Tryd.func37, Tryd.ntmps37
    go_wp2_with (go_at_call 63; refine P.out.mono ?_; rintro e w1 ⟨rfl, rfl⟩)
    all_goals
      go_ret
      refine ⟨ret_bool ?_, rfl⟩
      simp_all [memberB]
  · have h60' : decide (s.size ≤ 60) = false := by simpa using h60
    go_enter Tryd.func37, Tryd.ntmps37
    go_wp2_with fail
    all_goals
      go_ret
      refine ⟨ret_bool ?_, rfl⟩
      rw [memberB, h60']
      simp_all

/-- The last slash among the first k bytes. -/
def lastTo (s : ByteArray) : Nat → Int
  | 0 => -1
  | k + 1 => if bt s k = 47 then k else lastTo s k
theorem lastTo_succ (s : ByteArray) (k : Nat) : lastTo s (k + 1) = if bt s k = 47 then (k : Int) else lastTo s k := rfl
theorem lastTo_eq (s : ByteArray) (k : Nat) (hk : k ≤ s.size) : lastTo s k = Lib.lastIdx s 47 k := by
  induction k with
  | zero => rfl
  | succ k ih =>
    have e : ((s.data[k]!).toNat : Int) = bt s k := by
      rw [← bt_at s k hk, getElem!_pos s.data k hk]
      rfl
    rw [lastTo_succ, ih (by omega)]
    by_cases h : bt s k = 47
    · rw [if_pos h, Lib.lastIdx_hit s 47 k (by rw [e]; exact h)]
    · rw [if_neg h, Lib.lastIdx_miss s 47 k (by rw [e]; exact h)]
theorem lastTo_all (s : ByteArray) : lastTo s s.size = slash s := lastTo_eq s s.size (Nat.le_refl _)

theorem rlast_any (s : ByteArray) (hs : s.size ≤ 4611686018427387904) (w : World) : Calls Tryd.prog 69 #[.string s] w fun e w' => e = .returned (.int .i64 (slash s)) ∧ w' = w := by
  go_enter Tryd.func69, Tryd.ntmps69
  go_wp2
  go_loop [3, 4] (fun a i => ∃ k : Nat, k ≤ s.size ∧ i = .int .i64 k ∧ a = .int .i64 (lastTo s k)) (fun _ i => s.size - (intOf i).toNat)
  case atStart => exact ⟨0, Nat.zero_le _, rfl, rfl⟩
  case round =>
    obtain ⟨k, hk, rfl, rfl⟩ := hrel
    by_cases hlt : k < s.size
    · have hb := bt_at s k hlt
      have hsn := lastTo_succ s k
      generalize bt s k = n at *
      generalize lastTo s k = a at *
      replace hsn := Lib.hid hsn
      go_wp2
      · have hn : n = 47 := by simp_all
        go_round
        case rel => exact ⟨k + 1, by omega, by go_num, by rw [hsn.out, if_pos hn]⟩
        case measure => simp [intOf]; omega
      · have hn : ¬ n = 47 := by simp_all
        go_round
        case rel => exact ⟨k + 1, by omega, by go_num, by rw [hsn.out, if_neg hn]⟩
        case measure => simp [intOf]; omega
    · obtain rfl : k = s.size := by omega
      go_wp2
      go_ret
      exact ⟨ret_int (lastTo_all s), rfl⟩

theorem rpackage_any (s : ByteArray) (hs : s.size < 4611686018427387904) (w : World) : Calls Tryd.prog 38 #[.string s] w fun e w' => e = .returned (.string (pkgB s)) ∧ w' = w := by
  have L := Lib.hid (rlast_any s (by omega) w)
  have hb := slash_bd s
  have hfin : pkgB s = s.extract 0 (max 0 (slash s)).toNat := rfl
  generalize slash s = i at *
  replace hfin := Lib.hid hfin
  by_cases h0 : i < 0
  · go_enter Tryd.func38, Tryd.ntmps38
    go_wp2_with (go_at_call 69; refine L.out.mono ?_; rintro e w1 ⟨rfl, rfl⟩)
    go_ret
    refine ⟨?_, rfl⟩
    have e0 : s.extract 0 0 = ⟨#[]⟩ := bytes_inj (by simp [ex_data])
    rw [hfin.out, show (max 0 i).toNat = 0 by omega, e0]
    rfl
  · go_enter Tryd.func38, Tryd.ntmps38
    go_wp2_with (go_at_call 69; refine L.out.mono ?_; rintro e w1 ⟨rfl, rfl⟩)
    go_ret
    exact ⟨by rw [hfin.out, show (max 0 i).toNat = i.toNat by omega]; rfl, rfl⟩
theorem rsimple_any (s : ByteArray) (hs : s.size < 4611686018427387904) (w : World) : Calls Tryd.prog 39 #[.string s] w fun e w' => e = .returned (.string (simpleB s)) ∧ w' = w := by
  have L := Lib.hid (rlast_any s (by omega) w)
  have hb := slash_bd s
  have hfin : simpleB s = s.extract (slash s + 1).toNat s.size := rfl
  generalize slash s = i at *
  replace hfin := Lib.hid hfin
  go_enter Tryd.func39, Tryd.ntmps39
  go_wp2_with (go_at_call 69; refine L.out.mono ?_; rintro e w1 ⟨rfl, rfl⟩)
  go_ret
  exact ⟨by rw [hfin.out]; rfl, rfl⟩
end Go.Proofs.YtpcdfjifhoofjaaDoor.Nm

/- The walks of names.Join and arbiterref01's Part, Parts, Valid, Member, last, Package, Simple, Join, Compare, SameTexts. -/
namespace Go.Proofs.YtpcdfjifhoofjaaDoor.Nm
open Go Go.RowKit
set_option linter.unusedVariables false
set_option linter.unusedSimpArgs false
set_option maxHeartbeats 400000

/-- The texts, joined by slashes. -/
def jn (l : List ByteArray) : List UInt8 := Lib.join (l.map (·.data.toList)) [47]
def joinP (l : List ByteArray) : List UInt8 × Int := if l = [] ∨ 60 < (jn l).length then ([], 1) else if l.all partB then (jn l, 0) else ([], 1)
theorem jn_cons2 (a b : ByteArray) (l : List ByteArray) : jn (a :: b :: l) = a.data.toList ++ 47 :: jn (b :: l) := by
  unfold jn
  simp only [List.map_cons]
  rw [Lib.join_cons, Lib.join_cons]
  simp [Lib.joinTail]
theorem jn_one (a : ByteArray) : jn [a] = a.data.toList := by simp [jn, Lib.join_one]
theorem jn_snoc (l : List ByteArray) (h : l ≠ []) (x : ByteArray) : jn (l ++ [x]) = jn l ++ 47 :: x.data.toList := by
  induction l with
  | nil => exact absurd rfl h
  | cons a l ih =>
    cases l with
    | nil => simp [jn_cons2, jn_one]
    | cons b l =>
      rw [List.cons_append, List.cons_append, jn_cons2, jn_cons2, ← List.cons_append, ih (by simp)]
      simp
/-- The lengths, and one for each text. -/
def sumL (l : List ByteArray) : Nat := (l.map fun s => s.size + 1).sum
theorem sumL_jn (l : List ByteArray) (h : l ≠ []) : sumL l = (jn l).length + 1 := by
  induction l with
  | nil => exact absurd rfl h
  | cons a l ih =>
    cases l with
    | nil => simp [sumL, jn_one]
    | cons b l =>
      have := ih (by simp)
      rw [jn_cons2]
      simp only [sumL, List.map_cons, List.sum_cons, List.length_append, List.length_cons, Array.length_toList] at this ⊢
      have e : a.data.size = a.size := rfl
      omega
theorem sumL_snoc (l : List ByteArray) (k : Nat) (x : ByteArray) (hx : l[k]? = some x) : sumL (l.take (k + 1)) = sumL (l.take k) + x.size + 1 := by
  obtain ⟨h, rfl⟩ := List.getElem?_eq_some_iff.1 hx
  rw [List.take_succ_eq_append_getElem h]
  unfold sumL
  rw [List.map_append, List.sum_append]
  simp only [List.map_cons, List.map_nil, List.sum_cons, List.sum_nil]
  omega
theorem le_sumL (l : List ByteArray) (x : ByteArray) (hx : x ∈ l) : x.size + 1 ≤ sumL l := by
  induction l with
  | nil => cases hx
  | cons a l ih =>
    simp only [sumL, List.map_cons, List.sum_cons] at ih ⊢
    rcases List.mem_cons.1 hx with rfl | h
    · omega
    · have := ih h; omega
theorem sumL_take (l : List ByteArray) (k : Nat) : sumL (l.take k) ≤ sumL l := by
  have : sumL l = sumL (l.take k) + sumL (l.drop k) := by
    unfold sumL
    rw [← List.sum_append, ← List.map_append, List.take_append_drop]
  omega
theorem tuple_si {a a' : List UInt8} {b b' : Int} (h1 : a = a') (h2 : b = b') : Ending.returned (.tuple #[.string ⟨a.toArray⟩, .int .i64 b]) = .returned (.tuple #[.string ⟨a'.toArray⟩, .int .i64 b']) := by rw [h1, h2]

theorem join_any (l : List ByteArray) (hl : sumL l ≤ 1099511627776) (h0 : l ≠ []) (b o c : Nat) (hcap : l.length ≤ c) (w : World) (hb : b < w.heap.size) (hr : RdS w b o l) :
    Calls Tryd.prog 20 #[.slice (some ⟨b, o, none⟩) l.length c] w fun e w' => e = .returned (.tuple #[.string ⟨(joinP l).1.toArray⟩, .int .i64 (joinP l).2]) ∧ Below w.heap.size w w' := by
  have hsum := sumL_jn l h0
  have hlen : l.length ≤ sumL l := by
    clear hl hr hcap hsum h0
    induction l with
    | nil => simp [sumL]
    | cons a l ih => simp only [sumL, List.map_cons, List.sum_cons, List.length_cons] at ih ⊢; omega
  have J := Tryd.strings_Join b o c l ⟨#[47]⟩ w hr hb (by omega) hcap (by show (jn l).length ≤ _; omega)
  have hj : Lib.join (l.map (·.data.toList)) (⟨#[47]⟩ : ByteArray).data.toList = jn l := rfl
  rw [hj] at J
  replace J := Lib.hid J
  have hpos : 0 < l.length := List.length_pos_iff.2 h0
  have hxs : Hid (∀ x ∈ l, x.size ≤ 4611686018427387904) := fun x hx => by
    have := le_sumL l x hx
    omega
  clear hj
  replace hr := Lib.hid hr
  have hJP : Hid (joinP l = if 60 < (jn l).length then ([], 1) else if l.all partB then (jn l, 0) else ([], 1)) := by show _ = _; simp [joinP, h0]
  generalize jn l = res at *
  clear h0
  have hne : ((l.length : Int) == 0) = false := beq_eq_false_iff_ne.2 (by omega)
  by_cases h60 : 60 < res.length
  · have hfin : Hid (joinP l = ([], 1)) := by show _ = _; rw [hJP.out, if_pos h60]
    go_enter Tryd.func20, Tryd.ntmps20
    go_wp2_with (go_at_call 62; refine J.out.mono ?_; rintro e w1 ⟨rfl, hbl⟩; replace hbl := Lib.hid hbl)
    go_ret2
    exact ⟨by rw [hfin.out]; rfl, hbl.out⟩
  · have hfin : Hid (joinP l = if l.all partB then (res, 0) else ([], 1)) := by show _ = _; rw [hJP.out, if_neg h60]
    clear hJP
    have h60' : (res.length : Int) ≤ 60 := by omega
    go_enter Tryd.func20, Tryd.ntmps20
    go_wp2_with (go_at_call 62; refine J.out.mono ?_; rintro e w1 ⟨rfl, hbl⟩)
    replace hr : Hid (RdS w1 b o l) := hr.out.below hbl
    replace hbl := Lib.hid hbl
    go_loop [19] (fun i => ∃ k : Nat, k ≤ l.length ∧ i = .int .i64 k ∧ Hid (∀ j, j < k → ∀ x, l[j]? = some x → partB x = true)) (fun i => l.length - (intOf i).toNat)
    case atStart => exact ⟨0, Nat.zero_le _, rfl, fun j hj => absurd hj (by omega)⟩
    case round =>
      obtain ⟨k, hk, rfl, hp⟩ := hrel
      by_cases hlt : k < l.length
      · obtain ⟨x, hx⟩ : ∃ x, l[k]? = some x := ⟨_, List.getElem?_eq_getElem hlt⟩
        have hcell := hr.out k x hx
        have V := Lib.hid (part_any x (hxs.out x (List.mem_of_getElem? hx)) w1)
        replace hx := Lib.hid hx
        go_wp2_with (go_at_call 56; refine V.out.mono ?_; rintro e w2 ⟨rfl, rfl⟩)
        · have hf : partB x = false := by simp_all
          go_ret2
          exact ⟨by rw [hfin.out, bad_at l k x hx.out hf]; rfl, hbl.out⟩
        · have hf : partB x = true := by simp_all
          go_round
          case rel => exact ⟨k + 1, by omega, by go_num, fun j hj y hy => by
            by_cases e : j = k
            · subst e
              rw [hx.out] at hy
              cases hy
              exact hf
            · exact hp.out j (by omega) y hy⟩
          case measure => simp [intOf]; omega
      · go_wp2
        go_ret2
        exact ⟨by rw [hfin.out, badFrom_all l k hp.out (by omega)]; rfl, hbl.out⟩
theorem join_none (A : Option Addr) (c : Nat) (w : World) : Calls Tryd.prog 20 #[.slice A 0 c] w fun e w' => e = .returned (.tuple #[.string ⟨(joinP []).1.toArray⟩, .int .i64 (joinP []).2]) ∧ Below w.heap.size w w' := by
  have J := Lib.hid (Tryd.strings_Join_none A c ⟨#[47]⟩ w)
  go_enter Tryd.func20, Tryd.ntmps20
  go_wp2_with (go_at_call 62; refine J.out.mono ?_; rintro e w1 ⟨rfl, rfl⟩)
  go_ret2
  exact ⟨rfl, Below.refl _ _⟩
end Go.Proofs.YtpcdfjifhoofjaaDoor.Nm

/- The walks of arbiterref01: SameTexts, Compare, Join. -/
namespace Go.Proofs.YtpcdfjifhoofjaaDoor.Nm
open Go Go.RowKit
set_option linter.unusedVariables false
set_option linter.unusedSimpArgs false
set_option maxHeartbeats 400000
set_option maxRecDepth 10000

theorem take_eq_step (l m : List ByteArray) (k : Nat) (x y : ByteArray) (hx : l[k]? = some x) (hy : m[k]? = some y) (h : l.take k = m.take k) (e : x = y) : l.take (k + 1) = m.take (k + 1) := by
  obtain ⟨h1, rfl⟩ := List.getElem?_eq_some_iff.1 hx
  obtain ⟨h2, rfl⟩ := List.getElem?_eq_some_iff.1 hy
  rw [List.take_succ_eq_append_getElem h1, List.take_succ_eq_append_getElem h2, h, e]
theorem toList_inj {x y : ByteArray} (h : x.toList = y.toList) : x = y := bytes_inj (by rw [← ByteArray.toList_eq, ← ByteArray.toList_eq, h])

theorem sameTexts_any (l m : List ByteArray) (hl : l.length ≤ 4611686018427387904) (b1 o1 c1 b2 o2 c2 : Nat) (w : World) (r1 : RdS w b1 o1 l) (r2 : RdS w b2 o2 m) :
    Calls Tryd.prog 22 #[.slice (some ⟨b1, o1, none⟩) l.length c1, .slice (some ⟨b2, o2, none⟩) m.length c2] w fun e w' => e = .returned (.bool (decide (l = m))) ∧ Below w.heap.size w w' := by
  by_cases hlen : l.length = m.length
  · have hne : ((l.length : Int) != (m.length : Int)) = false := by simp [hlen]
    have hR1 : Hid (RdS w b1 o1 l) := r1
    have hR2 : Hid (RdS w b2 o2 m) := r2
    clear r1 r2
    replace hlen := Lib.hid hlen
    go_enter Tryd.func22, Tryd.ntmps22
    go_wp2
    go_loopw [5] (fun i wr => ∃ k : Nat, k ≤ l.length ∧ i = .int .i64 k ∧ Hid (l.take k = m.take k) ∧ Below w.heap.size w wr) (fun i _ => l.length - (intOf i).toNat)
    case atStart => exact ⟨0, Nat.zero_le _, rfl, rfl, Below.refl _ _⟩
    case round =>
      obtain ⟨k, hk, rfl, ht, hB⟩ := hrel
      by_cases hlt : k < l.length
      · obtain ⟨x, hx⟩ : ∃ x, l[k]? = some x := ⟨_, List.getElem?_eq_getElem hlt⟩
        obtain ⟨y, hy⟩ : ∃ y, m[k]? = some y := ⟨_, List.getElem?_eq_getElem (by have := hlen.out; omega)⟩
        have cx := bl_cell hB (hR1.out k x hx)
        have cy := bl_cell hB (hR2.out k y hy)
        have hlt2 : (k : Int) < (m.length : Int) := by have := hlen.out; omega
        replace hB := Lib.hid hB
        replace hx := Lib.hid hx
        replace hy := Lib.hid hy
        go_wp2
        go_quiet (fail)
        go_wp2
        · have hxy : x ≠ y := fun e => by simp_all
          go_ret
          exact ⟨ret_bool (by rw [eq_comm, decide_eq_false_iff_not]; intro e; rw [e, hy.out] at hx; exact hxy (Option.some.inj hx.out).symm), below_drewN hB.out _⟩
        · have hxy : x = y := toList_inj (by simp_all)
          go_roundw
          case rel => exact ⟨k + 1, by omega, by go_num, take_eq_step l m k x y hx.out hy.out ht.out hxy, below_drewN hB.out _⟩
          case measure => simp [intOf]; omega
      · have hfin : l = m := by
          have h1 := ht.out
          rw [List.take_of_length_le (by omega), List.take_of_length_le (by have := hlen.out; omega)] at h1
          exact h1
        replace hfin := Lib.hid hfin
        replace hB := Lib.hid hB
        go_wp2
        go_ret
        exact ⟨ret_bool (by rw [eq_comm, decide_eq_true_eq]; exact hfin.out), hB.out⟩
  · have hne : ((l.length : Int) != (m.length : Int)) = true := by simp; omega
    clear r1 r2
    go_enter Tryd.func22, Tryd.ntmps22
    go_wp2
    go_ret
    exact ⟨ret_bool (by rw [eq_comm, decide_eq_false_iff_not]; intro e; exact hlen (by rw [e])), Below.refl _ _⟩

theorem less_cmp (x y : ByteArray) (h : Op.bytesLess x.toList y.toList = true) : cmpS x y = -1 := by simp [cmpS, h]
theorem rcompare_any (a b : ByteArray) (ha : a.size ≤ 4294967296) (hb : b.size ≤ 4294967296) (w : World) : Calls Tryd.prog 40 #[.string a, .string b] w fun e w' => e = .returned (.int .i64 (cmpL (partsB a) (partsB b))) ∧ Below w.heap.size w w' := by
  have P1 := Lib.hid (rparts_any a ha w)
  have hla := partsB_le a
  have hlb := partsB_le b
  have P2 : Hid (∀ W, _) := Lib.hid (rparts_any b hb)
  generalize partsB a = l at *
  generalize partsB b = m at *
  go_enter Tryd.func40, Tryd.ntmps40
  go_wp2_with (go_at_call 24; refine P1.out.mono ?_; clear P1; rintro e w1 ⟨⟨g, cap, rfl, hown⟩, hbl⟩; have hr := Lib.hid (RdS_own hown); clear hown; replace hbl := Lib.hid hbl)
  go_wp2_with (go_at_call 24; refine (P2.out _).mono ?_; clear P2; rintro e w2 ⟨⟨g2, cap2, rfl, hown⟩, hbl2⟩; have hr2 := Lib.hid (RdS_own hown); clear hown)
  have R1 : Hid (RdS w2 g 0 l) := hr.out.below hbl2
  have B2 : Hid (Below w.heap.size w w2) := bl_trans hbl.out hbl2
  clear hr hbl hbl2
  go_loopw [7] (fun i wr => ∃ k : Nat, k ≤ l.length ∧ k ≤ m.length ∧ i = .int .i64 k ∧ Hid (cmpL l m = cmpL (l.drop k) (m.drop k)) ∧ Below w2.heap.size w2 wr) (fun i _ => l.length - (intOf i).toNat)
  case atStart => exact ⟨0, Nat.zero_le _, Nat.zero_le _, rfl, rfl, Below.refl _ _⟩
  case round =>
    obtain ⟨k, hk1, hk2, rfl, hc, hB⟩ := hrel
    by_cases hlt1 : k < l.length
    · obtain ⟨x, hx⟩ : ∃ x, l[k]? = some x := ⟨_, List.getElem?_eq_getElem hlt1⟩
      have cx := bl_cell hB (R1.out k x hx)
      rw [Nat.zero_add] at cx
      by_cases hlt2 : k < m.length
      · obtain ⟨y, hy⟩ : ∃ y, m[k]? = some y := ⟨_, List.getElem?_eq_getElem hlt2⟩
        have cy := bl_cell hB (hr2.out k y hy)
        rw [Nat.zero_add] at cy
        have hd := Lib.hid (cmpL_drop l m k x y hx hy)
        replace hB := Lib.hid hB
        clear hx hy
        go_wp2
        go_quiet (fail)
        go_wp2
        · have hl : cmpS x y = -1 := less_cmp x y (by assumption)
          go_ret
          exact ⟨ret_int (by rw [hc.out, hd.out, if_neg (by omega), hl]), bl_trans B2.out (below_drewN hB.out _)⟩
        go_quiet (fail)
        go_wp2
        · have hl : cmpS x y = 1 := by simp_all [cmpS]
          go_ret
          exact ⟨ret_int (by rw [hc.out, hd.out, if_neg (by omega), hl]), bl_trans B2.out (below_drewN (below_drewN hB.out _) _)⟩
        · have hl : cmpS x y = 0 := by simp_all [cmpS]
          go_roundw
          case rel => exact ⟨k + 1, by omega, by omega, by go_num, by show _ = _; rw [hc.out, hd.out, if_pos hl], below_drewN hB.out _⟩
          case measure => simp [intOf]; omega
      · have hd := Lib.hid (cmpL_end1 l m k hlt1 (by omega))
        replace hB := Lib.hid hB
        clear hx
        go_wp2
        go_ret
        exact ⟨ret_int (by rw [hc.out, hd.out]), bl_trans B2.out hB.out⟩
    · replace hB := Lib.hid hB
      by_cases hlt2 : k < m.length
      · have hd := Lib.hid (cmpL_end2 l m k (by omega) hlt2)
        go_wp2
        go_ret
        exact ⟨ret_int (by rw [hc.out, hd.out]), bl_trans B2.out hB.out⟩
      · have hd := Lib.hid (cmpL_end0 l m k (by omega) (by omega))
        go_wp2
        go_ret
        exact ⟨ret_int (by rw [hc.out, hd.out]), bl_trans B2.out hB.out⟩

theorem joinP_bad (l : List ByteArray) (h : l.all partB = false) : joinP l = ([], 1) := by simp [joinP, h]
theorem joinP_long (l : List ByteArray) (h : 61 < sumL l) : joinP l = ([], 1) := by
  have h0 : l ≠ [] := by rintro rfl; simp [sumL] at h
  have := sumL_jn l h0
  rw [joinP, if_pos (.inr (by omega))]
theorem joinP_ok (l : List ByteArray) (h0 : l ≠ []) (h : sumL l ≤ 61) (ha : l.all partB = true) : joinP l = (jn l, 0) := by
  have := sumL_jn l h0
  rw [joinP, if_neg (by simp [h0]; omega), if_pos ha]
theorem jn_take_succ (l : List ByteArray) (k : Nat) (hk : 0 < k) (x : ByteArray) (hx : l[k]? = some x) : jn (l.take (k + 1)) = jn (l.take k) ++ 47 :: x.data.toList := by
  obtain ⟨h, rfl⟩ := List.getElem?_eq_some_iff.1 hx
  rw [List.take_succ_eq_append_getElem h, jn_snoc _ (by intro e; have := congrArg List.length e; rw [List.length_take, List.length_nil] at this; omega)]
theorem jn_take_len (l : List ByteArray) (k : Nat) (hk : 0 < k) (h0 : l ≠ []) : (jn (l.take k)).length + 1 ≤ sumL l := by
  have h1 : l.take k ≠ [] := by intro e; have h1 := congrArg List.length e; have := List.length_pos_iff.2 h0; rw [List.length_take, List.length_nil] at h1; omega
  have := sumL_jn _ h1
  have := sumL_take l k
  omega

theorem rjoin_any (l : List ByteArray) (hl : sumL l ≤ 1099511627776) (b o c : Nat) (w : World) (hr : RdS w b o l) :
    Calls Tryd.prog 21 #[.slice (some ⟨b, o, none⟩) l.length c] w fun e w' => e = .returned (.tuple #[.string ⟨(joinP l).1.toArray⟩, .int .i64 (joinP l).2]) ∧ w' = w := by
  have hlen : l.length ≤ sumL l := by
    clear hl hr
    induction l with
    | nil => simp [sumL]
    | cons a l ih => simp only [sumL, List.map_cons, List.sum_cons, List.length_cons] at ih ⊢; omega
  have hxs : Hid (∀ x ∈ l, x.size + 1 ≤ sumL l) := fun x hx => le_sumL l x hx
  replace hr := Lib.hid hr
  go_enter Tryd.func21, Tryd.ntmps21
  go_wp2
  go_loop [4, 5] (fun sz i => ∃ k : Nat, k ≤ l.length ∧ i = .int .i64 k ∧ sz = .int .i64 (sumL (l.take k)) ∧ sumL (l.take k) ≤ 61 ∧ Hid (∀ j, j < k → ∀ x, l[j]? = some x → partB x = true)) (fun _ i => l.length - (intOf i).toNat)
  case atStart => exact ⟨0, Nat.zero_le _, rfl, rfl, by simp [sumL], fun j hj => absurd hj (by omega)⟩
  case round =>
    obtain ⟨k, hk, rfl, rfl, hs61, hp⟩ := hrel
    by_cases hlt : k < l.length
    · obtain ⟨x, hx⟩ : ∃ x, l[k]? = some x := ⟨_, List.getElem?_eq_getElem hlt⟩
      have hcell := hr.out k x hx
      have hxz := hxs.out x (List.mem_of_getElem? hx)
      have V := Lib.hid (rpart_any x (by omega) w)
      have hsn := sumL_snoc l k x hx
      have hst := sumL_take l (k + 1)
      replace hx := Lib.hid hx
      generalize hS : sumL (l.take k) = S at *
      generalize hS' : sumL (l.take (k + 1)) = S' at *
      replace hS' := Lib.hid hS'
      clear hS
      subst hsn
      go_wp2_with (go_at_call 63; refine V.out.mono ?_; rintro e w2 ⟨rfl, rfl⟩)
      · have hf : joinP l = ([], 1) := joinP_long l (by omega)
        go_ret2
        exact ⟨by rw [hf]; rfl, rfl⟩
      · have hf : joinP l = ([], 1) := joinP_long l (by omega)
        go_ret2
        exact ⟨by rw [hf]; rfl, rfl⟩
      · have hf : partB x = true := by assumption
        go_round
        case rel => exact ⟨k + 1, by omega, by go_num, by rw [hS'.out]; go_num, by rw [hS'.out]; omega, fun j hj y hy => by
          by_cases e : j = k
          · subst e
            rw [hx.out] at hy
            cases hy
            exact hf
          · exact hp.out j (by omega) y hy⟩
        case measure => simp [intOf]; omega
      · have hb : ¬ partB x = true := by assumption
        have hf : joinP l = ([], 1) := joinP_bad l (bad_at l k x hx.out (eq_false_of_ne_true hb))
        go_ret2
        exact ⟨by rw [hf]; rfl, rfl⟩
    · obtain rfl : k = l.length := by omega
      rw [List.take_length] at hs61
      by_cases h0 : l = []
      · subst h0
        go_wp2
        go_ret2
        exact ⟨rfl, rfl⟩
      · have hpos := List.length_pos_iff.2 h0
        have hne : ((l.length : Int) == 0) = false := beq_eq_false_iff_ne.2 (by omega)
        have hfin : Hid (joinP l = (jn l, 0)) := joinP_ok l h0 hs61 (badFrom_all l _ hp.out (by omega))
        obtain ⟨y, hy⟩ : ∃ y, l[0]? = some y := ⟨_, List.getElem?_eq_getElem hpos⟩
        have hc0 := hr.out 0 y hy
        rw [Nat.add_zero] at hc0
        have hj1 : Hid (jn (l.take 1) = y.data.toList) := by
          show _ = _
          cases l with
          | nil => exact absurd rfl h0
          | cons a l => simp at hy; subst hy; simp [jn_one]
        have H0 := Lib.hid h0
        clear hy h0 hp
        rw [List.take_length]
        go_wp2
        go_loop [6, 7] (fun t i => ∃ k : Nat, 0 < k ∧ k ≤ l.length ∧ i = .int .i64 k ∧ ∃ r : ByteArray, t = .string r ∧ Hid (r.data.toList = jn (l.take k)) ∧ r.size ≤ 61) (fun _ i => l.length - (intOf i).toNat)
        case atStart => exact ⟨1, by omega, hpos, rfl, y, rfl, hj1.out.symm, by
          have := jn_take_len l 1 (by omega) H0.out
          rw [hj1.out, Array.length_toList] at this
          show y.data.size ≤ 61
          omega⟩
        case round =>
          obtain ⟨k, hk0, hk, rfl, r, rfl, hrj, hr61⟩ := hrel
          by_cases hlt : k < l.length
          · obtain ⟨x, hx⟩ : ∃ x, l[k]? = some x := ⟨_, List.getElem?_eq_getElem hlt⟩
            have hcell := hr.out k x hx
            have hxz := hxs.out x (List.mem_of_getElem? hx)
            have hj := jn_take_succ l k hk0 x hx
            have hjl := jn_take_len l (k + 1) (by omega) H0.out
            replace hj := Lib.hid hj
            have hjl2 := Lib.hid hjl
            clear hx hjl
            go_wp2
            go_round
            case rel => exact ⟨k + 1, by omega, by omega, by go_num, r ++ ⟨#[47]⟩ ++ x, rfl, by
              show _ = _
              rw [hj.out, ← hrj.out]
              simp, by
              have h1 := hjl2.out
              rw [hj.out, ← hrj.out] at h1
              simp at h1
              have e1 : r.data.size = r.size := rfl
              have e2 : x.data.size = x.size := rfl
              have e3 : (⟨#[47]⟩ : ByteArray).size = 1 := rfl
              simp
              omega⟩
            case measure => simp [intOf]; omega
          · obtain rfl : k = l.length := by omega
            go_wp2
            go_ret2
            refine ⟨?_, rfl⟩
            have h1 := hrj.out
            rw [List.take_length] at h1
            rw [hfin.out, ← h1]
            rfl
end Go.Proofs.YtpcdfjifhoofjaaDoor.Nm

/- The walks of arbiterref02.read, Parse. -/
namespace Go.Proofs.YtpcdfjifhoofjaaDoor.Ty
open Go Go.RowKit Go.Proofs.YtpcdfjifhoofjaaDoor.Nm
set_option linter.unusedVariables false
set_option linter.unusedSimpArgs false
set_option maxHeartbeats 1000000
set_option maxRecDepth 10000

theorem drop_at (L : List UInt8) (k : Nat) (h : k < L.length) : ∃ x, L.drop k = x :: L.drop (k + 1) ∧ bt (bs L) k = (x.toNat : Int) := by
  refine ⟨L[k], List.drop_eq_getElem_cons h, ?_⟩
  simp [bt, mk_toList, List.getD_eq_getElem?_getD, List.getElem?_eq_getElem h]
/-- The reference's answer: dimensions, name, the place behind. -/
def place (L r : List UInt8) : Int := (L.length : Int) - (r.length : Int)

def ReadAs (L l : List UInt8) (d : Int) (nm : List UInt8) (pos : Int) : Prop :=
  match (rd l).rest with | none => pos = -1 | some r => d = (rd l).dims ∧ nm = (rd l).name ∧ pos = place L r
theorem upTo_step (x : UInt8) (l : List UInt8) (h : x ≠ 59) : upTo (x :: l) = x :: upTo l ∧ behind (x :: l) = behind l := by simp [upTo, behind, h]
/-- The name that the reference's read tells, whether or not there is a type. -/
def rdNm (l : List UInt8) : List UInt8 :=
  match past l with
  | [] => []
  | x :: r => if x = 76 then (match behind r with | none => [] | some _ => upTo r) else []
theorem rdNm_76 (l r : List UInt8) (h : past l = 76 :: r) : rdNm l = (match behind r with | none => [] | some _ => upTo r) := by rw [rdNm, h]; rfl
theorem rdNm_not (l r : List UInt8) (x : UInt8) (h : past l = x :: r) (hx : x ≠ 76) : rdNm l = [] := by rw [rdNm, h]; simp [hx]
theorem rread_ex (L : List UInt8) (n : Nat) (hn : n ≤ L.length) (hL : L.length < 4294967281) (w : World) (hm : ML w) : Calls Tryd.prog 66 #[.string (bs L), .int .i64 n] w fun e w' =>
    ∃ d nm pos, e = .returned (.tuple #[tyV d nm, .int .i64 pos]) ∧ Below w.heap.size w w' ∧ ReadAs L (L.drop n) d nm pos ∧ d = (opens (L.drop n) : Int) ∧ nm = rdNm (L.drop n) := by
  have hz := mk_size L
  have hzl : ((bs L).size : Int) = L.length := by rw [hz]
  have hbt : ∀ k (h : k < (bs L).size), (((bs L)[k]'h).toNat : Int) = bt (bs L) k := fun k h => bt_at _ k h
  replace hbt := Lib.hid hbt
  replace hz := Lib.hid hz
  go_enter Tryd.func66, Tryd.ntmps66
  go_wp2
  go_loopw [1] (fun i wr => ∃ k : Nat, i = .int .i64 ((n + k : Nat) : Int) ∧ n + k ≤ L.length ∧ opens (L.drop (n + k)) + k = opens (L.drop n) ∧ past (L.drop (n + k)) = past (L.drop n) ∧ Two wr w.heap.size 0 ⟨#[]⟩ ∧ Two wr (w.heap.size + 1) k ⟨#[]⟩ ∧ Below w.heap.size w wr) (fun i _ => L.length - (intOf i).toNat)
  case atStart =>
    have A0 := Two.new w 0 ⟨#[]⟩ 37
    have A1 := Two.new (w.alloc (.cells #[.int .i64 0, .string ⟨#[]⟩] 37)) 0 ⟨#[]⟩ 37
    have hz2 : (w.alloc (.cells #[.int .i64 0, .string ⟨#[]⟩] 37)).heap.size = w.heap.size + 1 := by simp
    rw [hz2] at A1
    refine ⟨0, rfl, hn, rfl, rfl, ?_, A1, ?_⟩
    · exact A0.kept (World.grownBy_alloc _ _ none) (by simp)
    · exact ((Below.refl _ _).alloc (Nat.le_refl _) _).alloc (by simp) _
  case round =>
    obtain ⟨k, rfl, hle, hop, hpa, hT, hU, hB⟩ := hrel
    have hne1 : some w.heap.size ≠ some (w.heap.size + 1) := by simp
    have hlt1 := hT.lt
    have hlt2 := hU.lt
    have h1 := hT.c0
    have h2 := hT.c1
    have h3 := hT.f0
    have h4 := hT.f1
    have g1 := hU.c0
    have g2 := hU.c1
    have g3 := hU.f0
    have g4 := hU.f1
    replace hT := Lib.hid hT
    replace hU := Lib.hid hU
    replace hB := Lib.hid hB
    replace hop := Lib.hid hop
    replace hpa := Lib.hid hpa
    replace hne1 := Lib.hid hne1
    by_cases hlt : n + k < L.length
    · obtain ⟨x, hx, hbx⟩ := drop_at L (n + k) hlt
      have hb := (hbt.out (n + k) (by rw [hz.out]; exact hlt)).trans hbx
      have hr : 0 ≤ (x.toNat : Int) ∧ (x.toNat : Int) ≤ 255 := by have := x.toNat_lt; omega
      replace hx := Lib.hid hx
      clear hbx
      by_cases h91 : (x.toNat : Int) = 91
      · go_wp2
        go_roundw
        case rel =>
          have hx91 : x = 91 := u8_ne (n := 91) (by omega) h91
          have e1 := hop.out
          have e2 := hpa.out
          rw [hx.out, hx91] at e1 e2
          refine ⟨k + 1, by go_num, by omega, ?_, ?_, ?_, ?_, ?_⟩
          · simp [opens] at e1; rw [← e1]; rw [show n + (k + 1) = n + k + 1 from rfl]; omega
          · rw [← e2]; simp [past]; rfl
          · exact hT.out.kept (gb_set _ _ _ _) hne1.out
          · have := hU.out.set0 (k + 1); simpa using this
          · exact hB.out.setCell (by simp) _
        case measure => simp [intOf]; omega
      · have hx91 : x ≠ 91 := by rintro rfl; exact h91 rfl
        have hself := past_self (L.drop (n + k)) (by rw [hx.out]; rintro r e; injection e with e; exact hx91 e)
        have hpq : past (L.drop n) = x :: L.drop (n + k + 1) := by rw [← hpa.out, hself.1, hx.out]
        have hk : opens (L.drop n) = k := by have := hop.out; rw [hself.2] at this; omega
        replace hpq := Lib.hid hpq
        replace hk := Lib.hid hk
        clear hop hpa hself
        replace hx91 := Lib.hid hx91
        by_cases h73 : (x.toNat : Int) = 73
        · have hrd : rd (L.drop n) = ⟨k, [], some (L.drop (n + k + 1))⟩ := by
            rw [rd, hpq.out, u8_ne (n := 73) (by omega) h73]
            simp [hk.out]
          have hrm : (k : Int) = (opens (L.drop n) : Int) ∧ ([] : List UInt8) = rdNm (L.drop n) := ⟨by rw [hk.out], (rdNm_not _ _ x hpq.out (by rw [u8_ne (n := 73) (by omega) h73]; decide)).symm⟩
          replace hrm := Lib.hid hrm
          replace hrd := Lib.hid hrd
          clear hpq hk
          go_wp2
          have T5 := (hT.out.set0 k).set1 ⟨#[]⟩
          refine bodyPost_ret (v := .tuple #[tyV k [], .int .i64 (n + k + 1)]) (by simp [results, Tryd.results66, go_sem, tyV, bs_nil, T5.c0, T5.c1]) rfl ⟨k, [], _, rfl, ?_, ?_, hrm.out⟩
          · repeat' (first | exact hB.out | apply Below.setCell | apply Below.alloc | apply Below.drew)
            all_goals (first | omega | (simp; done) | (simp; omega))
          · rw [ReadAs, hrd.out]
            refine ⟨rfl, rfl, ?_⟩
            simp [place]
            omega
        · by_cases h76 : (x.toNat : Int) = 76
          · obtain ⟨q, hq⟩ : ∃ q, q = L.drop (n + k + 1) := ⟨_, rfl⟩
            have hrd : rd (L.drop n) = ⟨k, upTo q, if validB (bs (upTo q)) then behind q else none⟩ := by
              rw [rd, hpq.out, u8_ne (n := 76) (by omega) h76, ← hq]
              simp [hk.out]
            have hrm : (k : Int) = (opens (L.drop n) : Int) ∧ (match behind q with | none => [] | some _ => upTo q) = rdNm (L.drop n) := ⟨by rw [hk.out], by rw [hq]; exact (rdNm_76 _ _ (by rw [hpq.out, u8_ne (n := 76) (by omega) h76]; rfl)).symm⟩
            replace hrm := Lib.hid hrm
            replace hrd := Lib.hid hrd
            replace hq := Lib.hid hq
            clear hpq hk
            go_wp2
            go_loop [7] (fun i => ∃ j : Nat, i = .int .i64 ((n + k + 1 + j : Nat) : Int) ∧ n + k + 1 + j ≤ L.length ∧ upTo q = q.take j ++ upTo (L.drop (n + k + 1 + j)) ∧ behind q = behind (L.drop (n + k + 1 + j))) (fun i => L.length - (intOf i).toNat)
            case atStart => exact ⟨0, by go_num, by omega, by rw [hq.out] <;> simp, by rw [hq.out] <;> simp⟩
            case round =>
              obtain ⟨j, rfl, hle2, hu, hbh⟩ := hrel
              replace hu := Lib.hid hu
              replace hbh := Lib.hid hbh
              by_cases hlt2 : n + k + 1 + j < L.length
              · obtain ⟨y, hy, hby⟩ := drop_at L (n + k + 1 + j) hlt2
                have hc := (hbt.out (n + k + 1 + j) (by rw [hz.out]; exact hlt2)).trans hby
                have hr2 : 0 ≤ (y.toNat : Int) ∧ (y.toNat : Int) ≤ 255 := by have := y.toNat_lt; omega
                replace hy := Lib.hid hy
                clear hby
                by_cases h59 : (y.toNat : Int) = 59
                · have e1 : upTo q = q.take j := by
                    have := hu.out
                    rw [hy.out, u8_ne (n := 59) (by omega) h59] at this
                    simpa [upTo] using this
                  have e2 : behind q = some (L.drop (n + k + 1 + j + 1)) := by
                    have := hbh.out
                    rw [hy.out, u8_ne (n := 59) (by omega) h59] at this
                    simpa [behind] using this
                  have e3 : (bs L).extract (n + k + 1) (n + k + 1 + j) = bs (upTo q) := by
                    apply bytes_inj
                    rw [ex_data, mk_toList, mk_toList, e1, hq.out]
                    rw [List.drop_take]
                    congr 1
                    omega
                  replace e1 := Lib.hid e1
                  replace e2 := Lib.hid e2
                  replace e3 := Lib.hid e3
                  have hcell : ∀ W : World, W = wr.setCell ⟨w.heap.size + 1, 1, none⟩ (.string (bs (upTo q))) → Two W w.heap.size 0 ⟨#[]⟩ ∧ Two W (w.heap.size + 1) k (bs (upTo q)) ∧ Below w.heap.size w W := by
                    rintro W rfl
                    exact ⟨hT.out.kept (gb_set _ _ _ _) hne1.out, hU.out.set1 _, hB.out.setCell (by simp) _⟩
                  replace hcell := Lib.hid hcell
                  have b1 : (n : Int) + k + 1 ≤ n + k + 1 + j := by omega
                  have b2 : (n : Int) + k + 1 + j ≤ L.length := by omega
                  have hsl : ∀ W : World, (Instr.slice 9 (.string (bs L)) (some (.int .i64 ((n : Int) + k + 1))) (some (.int .i64 ((n : Int) + k + 1 + j))) none).run Tryd.prog W = .ok (.string (bs (upTo q))) W := by
                    intro W
                    have i1 : (0 : Int) ≤ (n : Int) + k + 1 := by omega
                    have i3 : (n : Int) + k + 1 + j ≤ (bs L).size := by omega
                    have i4 : ((n : Int) + k + 1).toNat = n + k + 1 := by omega
                    have i5 : ((n : Int) + k + 1 + j).toNat = n + k + 1 + j := by omega
                    rw [run_slice_string _ _ _ _ _ _ _ rfl i1 b1 i3, i4, i5, e3.out]
                  go_wp2_with fail
                  obtain ⟨T5, U5, B5⟩ := hcell.out _ rfl
                  refine (rvalid_any (bs (upTo q)) _).mono ?_
                  rintro e w5 ⟨rfl, hb5⟩
                  have T6 := T5.kept (gb_below hb5) (by simp)
                  have U6 := U5.kept (gb_below hb5) (by simp)
                  have B6 := B5.trans (hb5.mono B5.size)
                  clear T5 U5 B5 hb5 hcell h1 h2 h3 h4 g1 g2 g3 g4 hlt1 hT hU hB
                  have hlt1 := T6.lt
                  have h1 := T6.c0
                  have h2 := T6.c1
                  have h3 := T6.f0
                  have h4 := T6.f1
                  have g1 := U6.c0
                  have g2 := U6.c1
                  replace T6 := Lib.hid T6
                  replace U6 := Lib.hid U6
                  replace B6 := Lib.hid B6
                  cases hv : validB (bs (upTo q))
                  · go_wp2
                    have T5 := (T6.out.set0 k).set1 (bs (upTo q))
                    refine bodyPost_ret (v := .tuple #[tyV k (upTo q), .int .i64 (-1)]) (by simp [results, Tryd.results66, go_sem, tyV, T5.c0, T5.c1]) rfl ⟨k, upTo q, _, rfl, ?_, ?_, hrm.out.1, by rw [← hrm.out.2, e2.out]⟩
                    · repeat' (first | exact B6.out | apply Below.setCell | apply Below.alloc | apply Below.drew)
                      all_goals (first | omega | (simp; done) | (simp; omega))
                    · rw [ReadAs, hrd.out]
                      simp [hv]
                  · go_wp2
                    have T5 := (T6.out.set0 k).set1 (bs (upTo q))
                    refine bodyPost_ret (v := .tuple #[tyV k (upTo q), .int .i64 (n + k + 1 + j + 1)]) (by simp [results, Tryd.results66, go_sem, tyV, T5.c0, T5.c1]) rfl ⟨k, upTo q, _, rfl, ?_, ?_, hrm.out.1, by rw [← hrm.out.2, e2.out]⟩
                    · repeat' (first | exact B6.out | apply Below.setCell | apply Below.alloc | apply Below.drew)
                      all_goals (first | omega | (simp; done) | (simp; omega))
                    · rw [ReadAs, hrd.out]
                      simp only [hv, if_true]
                      rw [e2.out]
                      refine ⟨trivial, trivial, ?_⟩
                      simp [place]
                      omega
                · go_wp2
                  go_round
                  case rel =>
                    have hy59 : y ≠ 59 := by rintro rfl; exact h59 rfl
                    have s1 := upTo_step y (L.drop (n + k + 1 + j + 1)) hy59
                    refine ⟨j + 1, by go_num, by omega, ?_, ?_⟩
                    · rw [hu.out, hy.out, s1.1]
                      have hqj : q.take (j + 1) = q.take j ++ [y] := by
                        have hqy : q[j]? = some y := by
                          rw [hq.out, List.getElem?_drop]
                          have := congrArg List.head? hy.out
                          rw [List.head?_drop] at this
                          exact this
                        rw [List.take_add_one, hqy]
                        rfl
                      rw [hqj, List.append_assoc]
                      rfl
                    · rw [hbh.out, hy.out, s1.2]; rfl
                  case measure => simp [intOf]; omega
              · have hnil : L.drop (n + k + 1 + j) = [] := by rw [show n + k + 1 + j = L.length by omega]; simp
                have e2 : behind q = none := by rw [hbh.out, hnil]; rfl
                replace e2 := Lib.hid e2
                have hej : n + k + 1 + j = L.length := by omega
                clear hu hbh hnil
                go_wp2
                have T5 := (hT.out.set0 k).set1 ⟨#[]⟩
                refine bodyPost_ret (v := .tuple #[tyV k [], .int .i64 (-1)]) (by simp [results, Tryd.results66, go_sem, tyV, bs_nil, T5.c0, T5.c1]) rfl ⟨k, [], _, rfl, ?_, ?_, hrm.out.1, by rw [← hrm.out.2, e2.out]⟩
                · repeat' (first | exact hB.out | apply Below.setCell | apply Below.alloc | apply Below.drew)
                  all_goals (first | omega | (simp; done) | (simp; omega))
                · rw [ReadAs, hrd.out, e2.out]
                  simp
          · have hrd : rd (L.drop n) = ⟨k, [], none⟩ := by
              rw [rd, hpq.out]
              have n1 : x ≠ 73 := by rintro rfl; exact h73 rfl
              have n2 : x ≠ 76 := by rintro rfl; exact h76 rfl
              simp [hk.out, n1, n2]
            have hrm : (k : Int) = (opens (L.drop n) : Int) ∧ ([] : List UInt8) = rdNm (L.drop n) := ⟨by rw [hk.out], (rdNm_not _ _ x hpq.out (by rintro rfl; exact h76 rfl)).symm⟩
            replace hrm := Lib.hid hrm
            replace hrd := Lib.hid hrd
            clear hpq hk
            have h76b : ((x.toNat : Int) != 76) = true := by simp [h76]
            go_wp2
            have T5 := (hT.out.set0 k).set1 ⟨#[]⟩
            refine bodyPost_ret (v := .tuple #[tyV k [], .int .i64 (-1)]) (by simp [results, Tryd.results66, go_sem, tyV, bs_nil, T5.c0, T5.c1]) rfl ⟨k, [], _, rfl, ?_, ?_, hrm.out⟩
            · repeat' (first | exact hB.out | apply Below.setCell | apply Below.alloc | apply Below.drew)
              all_goals (first | omega | (simp; done) | (simp; omega))
            · rw [ReadAs, hrd.out]
    · obtain hend : n + k = L.length := by omega
      have hnil : L.drop (n + k) = [] := by rw [hend]; simp
      have hrd : rd (L.drop n) = ⟨k, [], none⟩ := by
        have e1 := hop.out
        have e2 := hpa.out
        rw [hnil] at e1 e2
        rw [rd, ← e2]
        simp [opens, past] at e1 ⊢
        omega
      have hrm : (k : Int) = (opens (L.drop n) : Int) ∧ ([] : List UInt8) = rdNm (L.drop n) := by
        have e1 := hop.out
        have e2 := hpa.out
        rw [hnil] at e1 e2
        rw [rdNm, ← e2]
        simp [opens, past] at e1 ⊢
        omega
      replace hrm := Lib.hid hrm
      replace hrd := Lib.hid hrd
      clear hop hpa hnil
      go_wp2
      have T5 := (hT.out.set0 k).set1 ⟨#[]⟩
      refine bodyPost_ret (v := .tuple #[tyV k [], .int .i64 (-1)]) (by simp [results, Tryd.results66, go_sem, tyV, bs_nil, T5.c0, T5.c1]) rfl ⟨k, [], _, rfl, ?_, ?_, hrm.out⟩
      · repeat' (first | exact hB.out | apply Below.setCell | apply Below.alloc | apply Below.drew)
        all_goals (first | omega | (simp; done) | (simp; omega))
      · rw [ReadAs, hrd.out]
theorem rread_any (L : List UInt8) (n : Nat) (hn : n ≤ L.length) (hL : L.length < 4294967281) (w : World) (hm : ML w) : Calls Tryd.prog 66 #[.string (bs L), .int .i64 n] w fun e w' =>
    ∃ d nm pos, e = .returned (.tuple #[tyV d nm, .int .i64 pos]) ∧ Below w.heap.size w w' ∧ ReadAs L (L.drop n) d nm pos := by
  refine (rread_ex L n hn hL w hm).mono ?_
  rintro e w' ⟨d, nm, pos, he, hb, hr, _⟩
  exact ⟨d, nm, pos, he, hb, hr⟩
def readF (L : List UInt8) (n : Nat) : Int × List UInt8 × Int :=
  ((opens (L.drop n) : Int), rdNm (L.drop n), match (rd (L.drop n)).rest with | none => -1 | some r => place L r)
theorem rread_fun (L : List UInt8) (n : Nat) (hn : n ≤ L.length) (hL : L.length < 4294967281) (w : World) : Calls Tryd.prog 66 #[.string (bs L), .int .i64 n] w fun e w' =>
    e = .returned (.tuple #[tyV (readF L n).1 (readF L n).2.1, .int .i64 (readF L n).2.2]) ∧ Below w.heap.size w w' := by
  refine (rread_ex L n hn hL w trivial).mono ?_
  rintro e w' ⟨d, nm, pos, rfl, hb, hr, rfl, rfl⟩
  refine ⟨?_, hb⟩
  have hp : pos = (readF L n).2.2 := by
    unfold readF
    unfold ReadAs at hr
    cases h : (rd (L.drop n)).rest with
    | none => rw [h] at hr; simpa using hr
    | some r => rw [h] at hr; exact hr.2.2
  rw [hp]
  rfl
end Go.Proofs.YtpcdfjifhoofjaaDoor.Ty

/- The walks of arbiterref02.Parse, ParseRef, Same and of types.ParseRef. -/
namespace Go.Proofs.YtpcdfjifhoofjaaDoor.Ty
open Go Go.RowKit Go.Proofs.YtpcdfjifhoofjaaDoor.Nm
set_option linter.unusedVariables false
set_option linter.unusedSimpArgs false
set_option maxHeartbeats 1000000
set_option maxRecDepth 10000

theorem rparse_any (l : List UInt8) (w : World) (hm : ML w) : Calls Tryd.prog 27 #[.string (bs l)] w fun e w' =>
    e = .returned (.tuple #[tyV (parseT l).1 (parseT l).2.1, .int .i64 (parseT l).2.2]) ∧ Below w.heap.size w w' := by
  have hz := mk_size l
  have hzl : ((bs l).size : Int) = l.length := by rw [hz]
  clear hz
  have T0 := Two.new w 0 ⟨#[]⟩ 37
  by_cases hbig : 2000 < l.length
  · have hp : parseT l = (0, [], 5) := by simp [parseT, hbig]
    replace hp := Lib.hid hp
    replace T0 := Lib.hid T0
    go_enter Tryd.func27, Tryd.ntmps27
    go_wp2
    refine bodyPost_ret (v := .tuple #[tyV 0 [], .int .i64 5]) (by simp [results, Tryd.results27, go_sem, tyV, bs_nil]) rfl ⟨by rw [hp.out], ?_⟩
    have B0 := Below.refl w.heap.size w
    repeat' (first | assumption | apply Below.setCell | apply Below.alloc | apply Below.drew)
    all_goals (first | omega | (simp; done) | (simp; omega))
  · have hp : parseT l = match (rd l).rest with
      | none => (0, [], 4)
      | some r => if r ≠ [] then (0, [], 4) else if 255 < (rd l).dims then (0, [], 5) else ((rd l).dims, (rd l).name, 0) := by rw [parseT, if_neg hbig] <;> rfl
    replace hp := Lib.hid hp
    have hsm : (l.length : Int) ≤ 2000 := by omega
    have M0 := ml_alloc hm (.cells #[.int .i64 0, .string ⟨#[]⟩] 37)
    have O := Lib.hid (rread_any l 0 (by omega) (by omega) _ M0)
    have B0 : Below w.heap.size w (w.alloc (.cells #[.int .i64 0, .string ⟨#[]⟩] 37)) := (Below.refl _ _).alloc (Nat.le_refl _) _
    replace T0 := Lib.hid T0
    replace B0 := Lib.hid B0
    clear M0 hm
    go_enter Tryd.func27, Tryd.ntmps27
    go_wp2_with fail
    refine O.out.mono ?_
    rintro e w3 ⟨d, nm, pos, rfl, hg, hsome⟩
    have T3 := T0.out.kept (gb_below hg) (by simp)
    have B3 := B0.out.trans (hg.mono (by simp))
    have hsz := B3.size
    have hlt := T3.lt
    clear T0 B0 O hg
    have f0 := T3.f0
    have h1 := T3.c0
    have h2 := T3.c1
    have f1 := T3.f1
    replace T3 := Lib.hid T3
    rw [List.drop_zero] at hsome
    cases hr : (rd l).rest with
    | none =>
      rw [hr] at hp
      rw [ReadAs, hr] at hsome
      simp only at hsome
      subst hsome
      have hp2 : parseT l = (0, [], 4) := hp.out
      replace hp2 := Lib.hid hp2
      clear hp
      rw [tyV]
      go_wp2
      have T5 := ((T3.out.set0 0).set1 ⟨#[]⟩).kept (World.grownBy_alloc _ (.cells #[.int .i64 d, .string (bs nm)] 37) none) (by simp)
      refine bodyPost_ret (v := .tuple #[tyV 0 [], .int .i64 4]) (by simp [results, Tryd.results27, go_sem, tyV, bs_nil, T5.c0, T5.c1]) rfl ⟨by rw [hp2.out], ?_⟩
      repeat' (first | assumption | apply Below.setCell | apply Below.alloc | apply Below.drew)
      all_goals (first | omega | (simp; done) | (simp; omega))
    | some r =>
      rw [ReadAs, hr] at hsome
      obtain ⟨rfl, rfl, rfl⟩ := hsome
      rw [hr] at hp
      have hrl := rd_len l r hr
      have hdr : ((rd l).dims : Int) ≤ 4294967281 := by omega
      generalize (rd l).dims = k at *
      generalize (rd l).name = nm at *
      rw [tyV]
      cases r with
      | nil =>
        have hpl : place l [] = l.length := by simp [place]
        rw [hpl]
        by_cases hk : 255 < k
        · have hp2 : parseT l = (0, [], 5) := by rw [hp.out]; simp [hk]
          replace hp2 := Lib.hid hp2
          clear hp hpl
          go_wp2
          have T5 := ((T3.out.set0 0).set1 ⟨#[]⟩).kept (World.grownBy_alloc _ (.cells #[.int .i64 k, .string (bs nm)] 37) none) (by simp)
          refine bodyPost_ret (v := .tuple #[tyV 0 [], .int .i64 5]) (by simp [results, Tryd.results27, go_sem, tyV, bs_nil, T5.c0, T5.c1]) rfl ⟨by rw [hp2.out], ?_⟩
          repeat' (first | assumption | apply Below.setCell | apply Below.alloc | apply Below.drew)
          all_goals (first | omega | (simp; done) | (simp; omega))
        · have hp2 : parseT l = ((k : Int), nm, 0) := by rw [hp.out]; simp [hk]
          replace hp2 := Lib.hid hp2
          clear hp hpl
          go_wp2
          have T5 := ((T3.out.set0 k).set1 (bs nm)).kept (World.grownBy_alloc _ (.cells #[.int .i64 k, .string (bs nm)] 37) none) (by simp)
          refine bodyPost_ret (v := .tuple #[tyV k nm, .int .i64 0]) (by simp [results, Tryd.results27, go_sem, tyV, bs_nil, T5.c0, T5.c1]) rfl ⟨by rw [hp2.out], ?_⟩
          repeat' (first | assumption | apply Below.setCell | apply Below.alloc | apply Below.drew)
          all_goals (first | omega | (simp; done) | (simp; omega))
      | cons x r =>
        have hp2 : parseT l = (0, [], 4) := by rw [hp.out]; simp
        replace hp2 := Lib.hid hp2
        have hpl : place l (x :: r) ≠ l.length := by simp [place]; omega
        have hpl2 : (place l (x :: r) != (l.length : Int)) = true := by simp [hpl]
        generalize place l (x :: r) = ps at *
        clear hp
        go_wp2
        have T5 := ((T3.out.set0 0).set1 ⟨#[]⟩).kept (World.grownBy_alloc _ (.cells #[.int .i64 k, .string (bs nm)] 37) none) (by simp)
        refine bodyPost_ret (v := .tuple #[tyV 0 [], .int .i64 4]) (by simp [results, Tryd.results27, go_sem, tyV, bs_nil, T5.c0, T5.c1]) rfl ⟨by rw [hp2.out], ?_⟩
        repeat' (first | assumption | apply Below.setCell | apply Below.alloc | apply Below.drew)
        all_goals (first | omega | (simp; done) | (simp; omega))

end Go.Proofs.YtpcdfjifhoofjaaDoor.Ty

/- The walk of arbiterref02.Check. -/
namespace Go.Proofs.YtpcdfjifhoofjaaDoor.Ty
open Go Go.RowKit Go.Proofs.YtpcdfjifhoofjaaDoor.Nm
set_option linter.unusedVariables false
set_option linter.unusedSimpArgs false
set_option maxHeartbeats 1000000
set_option maxRecDepth 10000

theorem rcheck_any (d : Int) (nm : List UInt8) (w : World) : Calls Tryd.prog 44 #[tyV d nm] w fun e w' => e = .returned (.int .i64 (chk d nm)) ∧ Below w.heap.size w w' := by
  have B0 := Lib.hid ((Below.refl w.heap.size w).alloc (Nat.le_refl _) (.cells #[.int .i64 d, .string (bs nm)] 37))
  have V := Lib.hid (rvalid_any (bs nm) (w.alloc (.cells #[.int .i64 d, .string (bs nm)] 37)))
  have hne : nm ≠ [] → ¬ (bs nm).toList = [] ∧ (bs nm).toList.isEmpty = false := by
    intro h
    rw [ByteArray.toList_eq, mk_toList]
    exact ⟨h, by cases nm with | nil => exact absurd rfl h | cons => rfl⟩
  have hc : chk d nm = if d < 0 ∨ 255 < d then 1 else if nm ≠ [] ∧ validB (bs nm) = false then 1 else 0 := rfl
  replace hc := Lib.hid hc
  by_cases hd : d < 0 ∨ 255 < d
  · have h1 : chk d nm = 1 := by rw [hc.out, if_pos hd]
    rw [h1]
    clear hne V
    go_enter Tryd.func44, Tryd.ntmps44
    rw [tyV]
    rcases hd with hd | hd
    all_goals
      go_wp2
      go_ret
      exact ⟨rfl, B0.out⟩
  · have hd1 : 0 ≤ d := by omega
    have hd2 : d ≤ 255 := by omega
    clear hd
    cases nm with
    | nil =>
      have h1 : chk d [] = 0 := by rw [hc.out, if_neg (by omega), if_neg (by simp)]
      rw [h1]
      clear hne V hc
      rw [tyV, bs_nil]
      rw [bs_nil] at B0
      go_enter Tryd.func44, Tryd.ntmps44
      go_wp2
      go_ret
      exact ⟨rfl, B0.out⟩
    | cons x r =>
      obtain ⟨n1, n2⟩ := hne (by simp)
      cases hv : validB (bs (x :: r))
      · have h1 : chk d (x :: r) = 1 := by rw [hc.out, if_neg (by omega), if_pos ⟨by simp, hv⟩]
        rw [h1, tyV]
        rw [hv] at V
        clear hc hv hne
        generalize bs (x :: r) = s at *
        go_enter Tryd.func44, Tryd.ntmps44
        go_wp2_with (go_at_call 36; refine V.out.mono ?_; rintro e w3 ⟨rfl, hb⟩; replace hb := Lib.hid hb)
        go_ret
        exact ⟨rfl, B0.out.trans (hb.out.mono (by simp))⟩
      · have h1 : chk d (x :: r) = 0 := by rw [hc.out, if_neg (by omega), if_neg (by simp [hv])]
        rw [h1, tyV]
        rw [hv] at V
        clear hc hv hne
        generalize bs (x :: r) = s at *
        go_enter Tryd.func44, Tryd.ntmps44
        go_wp2_with (go_at_call 36; refine V.out.mono ?_; rintro e w3 ⟨rfl, hb⟩; replace hb := Lib.hid hb)
        go_ret
        exact ⟨rfl, B0.out.trans (hb.out.mono (by simp))⟩
end Go.Proofs.YtpcdfjifhoofjaaDoor.Ty

/- The walks of ArrayOf, Component, Element. -/
namespace Go.Proofs.YtpcdfjifhoofjaaDoor.Ty
open Go Go.RowKit Go.Proofs.YtpcdfjifhoofjaaDoor.Nm
set_option linter.unusedVariables false
set_option linter.unusedSimpArgs false
set_option maxHeartbeats 1000000
set_option maxRecDepth 10000

def arrT (d : Int) (nm : List UInt8) : Int × List UInt8 × Int :=
  if chk d nm ≠ 0 then (0, [], 1) else if d = 255 then (0, [], 5) else (d + 1, nm, 0)
theorem chk_cases (d : Int) (nm : List UInt8) : (chk d nm = 1) ∨ (chk d nm = 0 ∧ 0 ≤ d ∧ d ≤ 255) := by
  rw [chk]
  split
  · exact .inl rfl
  · split
    · exact .inl rfl
    · right; exact ⟨rfl, by omega, by omega⟩
theorem rarrayof_any (d : Int) (nm : List UInt8) (w : World) : Calls Tryd.prog 48 #[tyV d nm] w fun e w' =>
    e = .returned (.tuple #[tyV (arrT d nm).1 (arrT d nm).2.1, .int .i64 (arrT d nm).2.2]) ∧ Below w.heap.size w w' := by
  have A0 := Two.new w d (bs nm) 37
  have T0 := Two.new (w.alloc (.cells #[.int .i64 d, .string (bs nm)] 37)) 0 ⟨#[]⟩ 37
  have hz : (w.alloc (.cells #[.int .i64 d, .string (bs nm)] 37)).heap.size = w.heap.size + 1 := by simp
  rw [hz] at T0
  have A1 := A0.kept (World.grownBy_alloc _ (.cells #[.int .i64 0, .string ⟨#[]⟩] 37) none) (by simp)
  have C := Lib.hid (rcheck_any d nm ((w.alloc (.cells #[.int .i64 d, .string (bs nm)] 37)).alloc (.cells #[.int .i64 0, .string ⟨#[]⟩] 37)))
  have B0 := ((Below.refl w.heap.size w).alloc (Nat.le_refl _) (.cells #[.int .i64 d, .string (bs nm)] 37)).alloc (by simp) (.cells #[.int .i64 0, .string ⟨#[]⟩] 37)
  have K := chk_cases d nm
  have ha : arrT d nm = if chk d nm ≠ 0 then (0, [], 1) else if d = 255 then (0, [], 5) else (d + 1, nm, 0) := rfl
  replace ha := Lib.hid ha
  replace A1 := Lib.hid A1
  replace T0 := Lib.hid T0
  replace B0 := Lib.hid B0
  clear A0 hz
  rw [tyV]
  go_enter Tryd.func48, Tryd.ntmps48
  go_wp2_with fail
  refine C.out.mono ?_
  rintro e w3 ⟨rfl, hb⟩
  have A3 := A1.out.kept (gb_below hb) (by simp)
  have T3 := T0.out.kept (gb_below hb) (by simp)
  have B3 := B0.out.trans (hb.mono (by simp; omega))
  clear A1 T0 B0 hb C
  have a0 := A3.c0
  have a1 := A3.c1
  have h0 := T3.c0
  have h1 := T3.c1
  have f0 := T3.f0
  have f1 := T3.f1
  replace T3 := Lib.hid T3
  replace A3 := Lib.hid A3
  replace B3 := Lib.hid B3
  rcases K with hk | ⟨hk, hd0, hd1⟩
  · have hp := ha.out
    rw [hk, if_pos (by decide)] at hp
    replace hp := Lib.hid hp
    rw [hk]
    clear ha hk
    go_wp2
    have T5 := (T3.out.set0 0).set1 ⟨#[]⟩
    refine bodyPost_ret (v := .tuple #[tyV 0 [], .int .i64 1]) (by simp [results, Tryd.results48, go_sem, tyV, bs_nil, T5.c0, T5.c1]) rfl ⟨by rw [hp.out], ?_⟩
    have B4 := B3.out
    repeat' (first | assumption | apply Below.setCell | apply Below.alloc | apply Below.drew)
    all_goals (first | omega | (simp; done) | (simp; omega))
  · have hp := ha.out
    rw [hk, if_neg (by decide)] at hp
    rw [hk]
    clear ha hk
    by_cases h255 : d = 255
    · subst h255
      rw [if_pos rfl] at hp
      replace hp := Lib.hid hp
      go_wp2
      have T5 := (T3.out.set0 (0)).set1 (⟨#[]⟩)
      refine bodyPost_ret (v := .tuple #[tyV (0) [], .int .i64 5]) (by simp [results, Tryd.results48, go_sem, tyV, bs_nil, T5.c0, T5.c1]) rfl ⟨by rw [hp.out], ?_⟩
      have B4 := B3.out
      repeat' (first | assumption | apply Below.setCell | apply Below.alloc | apply Below.drew)
      all_goals (first | omega | (simp; done) | (simp; omega))
    · rw [if_neg h255] at hp
      replace hp := Lib.hid hp
      go_wp2
      have T5 := (T3.out.set0 (d + 1)).set1 (bs nm)
      refine bodyPost_ret (v := .tuple #[tyV (d + 1) nm, .int .i64 0]) (by simp [results, Tryd.results48, go_sem, tyV, bs_nil, T5.c0, T5.c1]) rfl ⟨by rw [hp.out], ?_⟩
      have B4 := B3.out
      repeat' (first | assumption | apply Below.setCell | apply Below.alloc | apply Below.drew)
      all_goals (first | omega | (simp; done) | (simp; omega))
end Go.Proofs.YtpcdfjifhoofjaaDoor.Ty
