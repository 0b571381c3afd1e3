/- Lemmas and contracts for the statement of FlFlagsBack: joined by program out of this session's texts. -/
import Derived.Laws.BitsLemmas
import Derived.RowKit
import Derived.WalkKit
import Derived.KernelRfl
import Derived.RowKit3
import Derived.BigQuiet
import Derived.Deep.QuietTactic
import Derived.Handy
import Derived.Lib.Hide
import Derived.Maps.AppendAt
import Derived.Deep.AppendLies
import Derived.Deep.DeepCutAuto
import Derived.RangeFuncNested
import Derived.RangeFuncBound
import Derived.RangeFuncCalls
import Derived.RangeFuncLeaves
import Derived.Shelf.Abstract
import Derived.Shelf.RegionOpen
import Derived.OwnWalkIn
import Derived.TacticsInMore
import Derived.LoopNIn
import Derived.LoopIn
import Derived.Shelf.Strings.Builder1
import Derived.Shelf.Strings.Builder2
import Derived.Shelf.Strings.OnBuilder
import Derived.Shelf.Strings.BuilderF
import Derived.Shelf.Strings.BuilderK
import Derived.Shelf.Utf8.RuneCount
import Derived.Shelf.Strings.Builder2Cap
import Derived.Shelf.Strings.Search1
import Derived.Shelf.Strings.Search2
import Derived.Shelf.Strings.Search3
import Derived.Shelf.Strings.Cut
import Derived.Shelf.Strings.Count
import Derived.Shelf.LaysM
import Derived.Shelf.Strings.Shaped
import Derived.Shelf.Strings.LastIndex
import Derived.Shelf.Strings.Prefix
import Derived.Shelf.Strings.Split
import Derived.Shelf.Strings.SplitShaped
import Derived.Shelf.Unicode.Decode
import Derived.Shelf.Strings.RuneCount
import Derived.Shelf.Strings.Explode
import Derived.Shelf.Bits.Mul64
import Derived.Shelf.Strings.Repeat
import Derived.Shelf.Unicode.DecodeSlow
import Derived.Shelf.Unicode.DecodeAny
import Derived.Shelf.Strings.BuilderCap
import Derived.Ground.PaProg
import Derived.Shelf.Path.Small
import Derived.Test.YtajplppeijmfpaaDoorProg
namespace Go.Proofs.YtajplppeijmfpaaDoor.Fl
open Go Go.RowKit
def band (f c : Int) : Int := bits .and .i64 f c
def bandn (f c : Int) : Int := bits .andNot .i64 f c
def inR (f : Int) : Prop := -9223372036854775808 ≤ f ∧ f ≤ 9223372036854775807
theorem wrap_toNat_zero (x : BitVec 64) (h : IntKind.i64.wrap (x.toNat : Int) = 0) : x = 0#64 := by
 rw [IntKind.wrap_i64] at h; have hx := x.isLt
 apply BitVec.eq_of_toNat_eq
 simp only [BitVec.toNat_ofNat]
 omega
theorem bandn_zero (f : Int) (hf : inR f) (c : Nat) (hc : c < 2048) (h : bandn f c = 0) : 0 ≤ f ∧ f ≤ c := by
 have h1 := wrap_toNat_zero (BitVec.ofInt 64 f &&& ~~~ BitVec.ofInt 64 (c : Int)) h
 have h2 : BitVec.ofInt 64 f = BitVec.ofInt 64 f &&& BitVec.ofInt 64 (c : Int) := by
  apply BitVec.eq_of_getLsbD_eq
  intro i hi; have := congrArg (fun b => b.getLsbD i) h1; simp only [BitVec.getLsbD_and, BitVec.getLsbD_not, BitVec.getLsbD_zero, hi, decide_true, Bool.true_and] at this ⊢
  revert this
  cases (BitVec.ofInt 64 f).getLsbD i <;> cases (BitVec.ofInt 64 (c : Int)).getLsbD i <;> simp
 have h3 : (BitVec.ofInt 64 f).toNat ≤ c := by
  rw [h2, BitVec.toNat_and]; refine Nat.le_trans Nat.and_le_right ?_; rw [BitVec.ofInt_natCast, BitVec.toNat_ofNat]
  exact Nat.mod_le _ _
 have h4 := congrArg Int.toNat (BitVec.toInt_ofInt (n := 64) (i := f)); rw [BitVec.toNat_ofInt] at h3; unfold inR at hf
 omega
def checkClass (f : Int) : Int :=
 if bandn f 1585 ≠ 0 ∨ band f 1040 = 1040 then 1
 else if band f 512 = 512 ∧ (band f 1024 ≠ 1024 ∨ band f 48 ≠ 0) then 1 else 0
def checkMethod (f : Int) (b i : Bool) : Int :=
 if bandn f 1055 ≠ 0 ∨ band (band f 7) (wrap64 (band f 7 - 1)) ≠ 0 then 1
 else if band f 1024 = 1024 ∧ band f 26 ≠ 0 then 1
 else if b = true ∧ (band (band f 7) 3 = 0 ∨ band f 16 ≠ 0 ∨ i = true) then 1
 else if i = true ∧ band f 1048 ≠ 0 then 1 else 0
def classFlags : List Int := [1, 16, 32, 512, 1024]
def methodFlags : List Int := [1, 2, 4, 8, 16, 1024]
def wPublic : List UInt8 := [112, 117, 98, 108, 105, 99]
def wPrivate : List UInt8 := [112, 114, 105, 118, 97, 116, 101]
def wProtected : List UInt8 := [112, 114, 111, 116, 101, 99, 116, 101, 100]
def wStatic : List UInt8 := [115, 116, 97, 116, 105, 99]
def wFinal : List UInt8 := [102, 105, 110, 97, 108]
def wSuper : List UInt8 := [115, 117, 112, 101, 114]
def wInterface : List UInt8 := [105, 110, 116, 101, 114, 102, 97, 99, 101]
def wAbstract : List UInt8 := [97, 98, 115, 116, 114, 97, 99, 116]
def allWords : List (Int × List UInt8) := [(1, wPublic), (2, wPrivate), (4, wProtected), (8, wStatic), (16, wFinal), (32, wSuper), (512, wInterface), (1024, wAbstract)]
def wordsOf (f : Int) (l : List (Int × List UInt8)) : List (List UInt8) := (l.filter fun p => band f p.1 != 0).map (·.2)
def joinB : List (List UInt8) → List UInt8
 | [] => []
 | [a] => a
 | a :: b :: r => a ++ 32 :: joinB (b :: r)
def text (f among : Int) : List UInt8 × Int := if bandn f among ≠ 0 then ([], 1) else (joinB (wordsOf f allWords), 0)
def classWords : List (List UInt8) := [wPublic, wFinal, wSuper, wInterface, wAbstract]
def methodWords : List (List UInt8) := [wPublic, wPrivate, wProtected, wStatic, wFinal, wAbstract]
end Go.Proofs.YtajplppeijmfpaaDoor.Fl

namespace Go.Proofs.YtajplppeijmfpaaDoor.Fl
open Go Go.RowKit
set_option linter.unusedVariables false
def sp : List UInt8 → List (List UInt8)
 | [] => [[]]
 | c :: r => if c = 32 then [] :: sp r else
  match sp r with
  | a :: t => (c :: a) :: t
  | [] => [[c]]
def orW (among : Int) (part : List UInt8) (f : Int) : List (Int × List UInt8) → Int
 | [] => f
 | (x, t) :: r => orW among part (if t = part then bits .or .i64 f (band x among) else f) r
theorem orW_append (among : Int) (part : List UInt8) (f : Int) (l m : List (Int × List UInt8)) : orW among part f (l ++ m) = orW among part (orW among part f l) m := by
 induction l generalizing f with
 | nil => rfl
 | cons p l ih => obtain ⟨x, t⟩ := p; simp only [List.cons_append, orW, ih]
def orS (among : Int) (f : Int) (l : List (List UInt8)) : Int := l.foldl (fun f p => orW among p f allWords) f
def parse (s : List UInt8) (among : Int) : Int × Int := if (text (orS among 0 (sp s)) among).1 = s then (orS among 0 (sp s), 0) else (0, 4)
def rpGo (s : List UInt8) : Nat → Int → List (Int × List UInt8) → Nat × Int
 | at_, f, [] => (at_, f)
 | at_, f, (x, t) :: r =>
  if at_ + (if 0 < at_ then 32 :: t else t).length ≤ s.length ∧ (s.drop at_).take (if 0 < at_ then 32 :: t else t).length = (if 0 < at_ then 32 :: t else t) ∧
   (at_ + (if 0 < at_ then 32 :: t else t).length = s.length ∨ s[at_ + (if 0 < at_ then 32 :: t else t).length]? = some 32)
  then rpGo s (at_ + (if 0 < at_ then 32 :: t else t).length) (f + x) r else rpGo s at_ f r
def rparse (s : List UInt8) (l : List (Int × List UInt8)) : Int × Int := if (rpGo s 0 0 l).1 = s.length then ((rpGo s 0 0 l).2, 0) else (0, 4)
def subs : List (Int × List UInt8) → List (List (Int × List UInt8))
 | [] => [[]]
 | p :: r => subs r ++ (subs r).map (p :: ·)
def glueT (l : List (Int × List UInt8)) : List UInt8 := l.flatMap fun p => 32 :: p.2
def glue : List (Int × List UInt8) → List UInt8
 | [] => []
 | p :: r => p.2 ++ glueT r
def sumF (l : List (Int × List UInt8)) : Int := l.foldr (fun p n => p.1 + n) 0
def classPairs : List (Int × List UInt8) := classFlags.zip classWords
def methodPairs : List (Int × List UInt8) := methodFlags.zip methodWords
def fits (among : Int) : List Int := ((List.range 2048).map Int.ofNat).filter fun f => bandn f among == 0
theorem fits_of {f among : Int} (h0 : 0 ≤ f) (h1 : f < 2048) (h : bandn f among = 0) : f ∈ fits among := by
 obtain ⟨n, rfl⟩ := Int.eq_ofNat_of_zero_le h0
 exact List.mem_filter.2 ⟨List.mem_map.2 ⟨n, List.mem_range.2 (by omega), rfl⟩, by simpa using h⟩
theorem fits_bandn {f among : Int} (h : f ∈ fits among) : bandn f among = 0 := by
 have := (List.mem_filter.1 h).2
 simpa using this
def classSet : List Int := [0, 1, 16, 17, 32, 33, 48, 49, 512, 513, 528, 529, 544, 545, 560, 561, 1024, 1025, 1040, 1041, 1056, 1057, 1072, 1073, 1536, 1537, 1552, 1553, 1568, 1569, 1584, 1585]
def methodSet : List Int := (List.range 32).map Int.ofNat ++ (List.range 32).map (fun n => Int.ofNat (n + 1024))
theorem class_fits : fits 1585 = classSet := by decide +kernel
theorem method_fits : fits 1055 = methodSet := by decide +kernel
def okSet (among : Int) (pairs : List (Int × List UInt8)) (C : List Int) : Bool :=
 (C.all fun f => allWords.all fun p => C.contains (bits .or .i64 f (band p.1 among))) &&
 (C.all fun f => orS among 0 (sp (joinB (wordsOf f allWords))) == f) &&
 (C.all fun f => rparse (joinB (wordsOf f allWords)) pairs == (f, 0)) &&
 ((subs pairs).all fun T => C.contains (sumF T) && (joinB (wordsOf (sumF T) allWords) == glue T))
theorem class_ok : okSet 1585 classPairs classSet = true := by decide +kernel
theorem method_ok : okSet 1055 methodPairs methodSet = true := by decide +kernel
section
variable {among : Int} {pairs : List (Int × List UInt8)} {C : List Int}
theorem orW_in (h : okSet among pairs C = true) (part : List UInt8) (l : List (Int × List UInt8)) (hl : ∀ p ∈ l, p ∈ allWords) : ∀ f ∈ C, orW among part f l ∈ C := by
 simp only [okSet, Bool.and_eq_true, List.all_eq_true, List.contains_iff_mem, beq_iff_eq] at h
 induction l with
 | nil => intro f hf; exact hf
 | cons p l ih =>
  intro f hf; obtain ⟨x, t⟩ := p; unfold orW; refine ih (fun q hq => hl q (by simp [hq])) _ ?_
  split
  ·exact h.1.1.1 f hf (x, t) (hl _ (by simp))
  ·exact hf
theorem orS_in (h : okSet among pairs C = true) (l : List (List UInt8)) : ∀ f ∈ C, orS among f l ∈ C := by
 induction l with
 | nil => intro f hf; exact hf
 | cons p l ih => intro f hf; exact ih _ (orW_in h p allWords (fun _ h => h) f hf)
theorem text_in (hC : fits among = C) {f : Int} (hf : f ∈ C) : text f among = (joinB (wordsOf f allWords), 0) := by
 rw [text, if_neg (by rw [fits_bandn (hC ▸ hf)]; simp)]
theorem parse_text (h : okSet among pairs C = true) (hC : fits among = C) {f : Int} (hf : f ∈ C) : parse (text f among).1 among = (f, 0) := by
 have h' := h; simp only [okSet, Bool.and_eq_true, List.all_eq_true, List.contains_iff_mem, beq_iff_eq] at h'; have k := h'.1.1.2 f hf; unfold parse; rw [text_in hC hf]; simp only; rw [k, text_in hC hf, if_pos rfl]
theorem parse_back (h : okSet among pairs C = true) (hC : fits among = C) (h0 : 0 ∈ C) (s : List UInt8) : ((parse s among).2 = 0 ∧ text (parse s among).1 among = (s, 0)) ∨ parse s among = (0, 4) := by
 have hin := orS_in h (sp s) 0 h0; unfold parse
 split
 ·rename_i hs
  left
  refine ⟨rfl, ?_⟩; rw [text_in hC hin] at hs ⊢; simp only at hs ⊢; rw [hs]
 ·exact .inr rfl
end
theorem inSet (f : Int) (hf : inR f) (among : Nat) (ha : among < 2048) (h : (text f among).2 = 0) : f ∈ fits among := by
 have hb : bandn f among = 0 := by
  unfold text at h
  split at h
  ·simp at h
  ·rename_i hb; simpa using hb
 have := bandn_zero f hf among ha hb
 exact fits_of this.1 (by omega) hb
theorem classBack (f : Int) (hf : inR f) (h : (text f 1585).2 = 0) : parse (text f 1585).1 1585 = (f, 0) := parse_text class_ok class_fits (class_fits ▸ inSet f hf 1585 (by decide) h)
theorem methodBack (f : Int) (hf : inR f) (h : (text f 1055).2 = 0) : parse (text f 1055).1 1055 = (f, 0) := parse_text method_ok method_fits (method_fits ▸ inSet f hf 1055 (by decide) h)
theorem classHas (f : Int) (h : checkClass f = 0) : (text f 1585).2 = 0 := by
 unfold checkClass at h
 split at h
 ·exact absurd h (by decide)
 ·rename_i hn
  have hb : bandn f 1585 = 0 := by simpa using fun e => hn (.inl e)
  unfold text; rw [if_neg (by rw [hb]; simp)]
theorem methodHas (f : Int) (b i : Bool) (h : checkMethod f b i = 0) : (text f 1055).2 = 0 := by
 unfold checkMethod at h
 split at h
 ·exact absurd h (by decide)
 ·rename_i hn
  have hb : bandn f 1055 = 0 := by simpa using fun e => hn (.inl e)
  unfold text; rw [if_neg (by rw [hb]; simp)]
theorem classAgain (s : List UInt8) : ((parse s 1585).2 = 0 ∧ text (parse s 1585).1 1585 = (s, 0)) ∨ parse s 1585 = (0, 4) := parse_back class_ok class_fits (by decide) s
theorem methodAgain (s : List UInt8) : ((parse s 1055).2 = 0 ∧ text (parse s 1055).1 1055 = (s, 0)) ∨ parse s 1055 = (0, 4) := parse_back method_ok method_fits (by decide) s
end Go.Proofs.YtajplppeijmfpaaDoor.Fl

namespace Go.Proofs.YtajplppeijmfpaaDoor
open Go Go.RowKit
set_option linter.unusedVariables false
set_option linter.unusedSimpArgs false
theorem ret_int {k : IntKind} {a b : Int} (h : a = b) : Ending.returned (.int k a) = .returned (.int k b) := by rw [h]
theorem append1 {P : Program} {ops : Array Oper} {rest : List Oper} {o : Oper} {a : Act} {Q : Exit → Act → World → Prop} {W : World} (base : Nat) (hgd : o.guard = none) (s x : Operand) (t e : TypeId) (z : Value) (size bytes : Nat)
  (ho : o.op = .call { callee := .builtin .append, args := #[s, x], argTypes := #[t, t] })
  (ht : P.underlying t = some (.slice e)) (hinfo : (P.info? e).map (fun i => (i.zero, i.size, i.bytes)) = some (some z, size, bytes)) (hz : z.cells.size = size) (hsz : 0 < size)
  (v : Value) (n : Nat) (xs news : List Value) (hs : a.eval s = v) (b : Nat) (hb : b = W.heap.size) (hx : a.eval x = .slice (some ⟨b, 0, none⟩) 1 1) (hnl : news.length = size) (h1 : ∀ u ∈ news, u.oneCell' = true)
  (HO : W.ownsRow base e size v n xs) (hbase : base ≤ W.heap.size) (hl : (n + 1) * bytes ≤ 140737488355328) (hm : n + 1 ≤ 9223372036854775807)
  (h : ∀ v1 w1, w1.ownsRow base e size v1 (n + 1) (xs ++ news) → W.grownBy w1 v.ownBlock → wpList P ops Q rest (a.put o.dst v1) w1) :
  wpList P ops Q (o :: rest) a (W.alloc (.cells news.toArray e)) := by
 subst hb; obtain ⟨i0, hi, hzz⟩ := Option.map_eq_some_iff.1 hinfo; simp only [Prod.mk.injEq] at hzz; obtain ⟨hz0, hz1, hz2⟩ := hzz; refine wpList_append_own (W.alloc (.cells news.toArray e)) hgd s x t ho base e i0 z size bytes ht hi hz0 hz1 hz2 hz hsz v n xs hs (HO.alloc _) ⟨W.heap.size, 0, none⟩ 1 1 news hx (by omega) ?_ h1 (by simpa only [maxLen] using hm) hl (by simp; omega) ?_
 ·intro j u hu
  exact World.news_of_block (cs := news.toArray) (t := e) (fr := (0, 0)) (heap_alloc_new W _) j u (by simpa using hu)
 ·intro v1 w1 hown hg _
  exact h v1 w1 hown (World.grownBy.trans (World.grownBy_alloc W _ _) hg)
theorem own_base {w : World} {base : Nat} {e : TypeId} {size n : Nat} {v : Value} {xs : List Value} (h : w.ownsRow base e size v n xs) (k : Nat) (hk : v.ownBlock = some k) : base ≤ k := (h.lt k hk).1
theorem own_cell {w : World} {base g cap : Nat} {e : TypeId} {size n : Nat} {xs : List Value} (h : w.ownsRow base e size (.slice (some ⟨g, 0, none⟩) n cap) n xs) (j : Nat) (u : Value) (hu : xs[j]? = some u) : w.cell? ⟨g, j, none⟩ = some u := by
 have := h.cells (g := g) rfl j u hu; unfold Addr.add at this
 split at this <;> simp_all
theorem own_cap {w : World} {base g cap : Nat} {e : TypeId} {size n : Nat} {xs : List Value} (h : w.ownsRow base e size (.slice (some ⟨g, 0, none⟩) n cap) n xs) : n ≤ cap := by
 rcases h.2 with ⟨h', _⟩ | ⟨g', cap', cur, h', _, _, hn, _⟩
 ·cases h'
 ·injection h' with _ _ hc; omega
theorem own_shape {w : World} {base : Nat} {e : TypeId} {size n : Nat} {v : Value} {xs : List Value} (h : w.ownsRow base e size v n xs) : ∃ A c, v = .slice A n c := by
 rcases h.2 with ⟨rfl, rfl⟩ | ⟨g, cap, cur, rfl, _⟩
 ·exact ⟨none, 0, rfl⟩
 ·exact ⟨_, cap, rfl⟩
theorem bl_trans {w w1 w2 : World} (h : Below w.heap.size w w1) (k : Below w1.heap.size w1 w2) : Below w.heap.size w w2 := h.trans (k.mono h.size)
theorem bl_cell {w w1 : World} (h : Below w.heap.size w w1) {a : Addr} {v : Value} (hc : w.cell? a = some v) : w1.cell? a = some v := (h.cell (World.block_lt_of_cell? w a hc)).trans hc
end Go.Proofs.YtajplppeijmfpaaDoor

namespace Go.Proofs.YtajplppeijmfpaaDoor.Rfc
open Go Go.RowKit
set_option linter.unusedVariables false
variable {F : Fence} {n : Nat} {P : Program}
def Bears {β : Type} (bs : Nat) (J : β → World → Prop) : Prop := ∀ s W W' row, J s W → W.grownBy W' row → (∀ r, row = some r → r = bs) → J s W'
def Gives {α : Type} (F : Fence) (n : Nat) (P : Program) (gf : Nat) (lb : Array Value) (encs : α → Array Value) (bs : Nat) (ks : List Nat) (xs : List α) (w : World) : Prop :=
 ∀ (l : Nat) (J : List α → World → Prop) (W : World), Bears bs J → (∀ k ∈ ks, W.heap[k]? = w.heap[k]?) →
  (∀ pre x V, J pre V → YieldAt F (n - 1) P l (encs x) V fun e V' => e = .returned (.bool true) ∧ J (pre ++ [x]) V' ∧ ∀ k ∈ ks, V'.heap[k]? = V.heap[k]?) →
  J [] W → CallsIn F n P gf (#[.func (.yield l) #[] #[]] ++ lb) W fun e W' => (∃ v, e = .returned v) ∧ J xs W'
def onward {α : Type} (B : Nat) (ks : List Nat) (I : List α → World → Prop) (xs : List α) (W : World) : Exit → Act → World → Prop
 | .normal, _, W' => KeepsFrom B W W' ∧ (∀ k ∈ ks, W'.heap[k]? = W.heap[k]?) ∧ I xs W'
 | _, _, _ => False
theorem wpIn_rangeFunc_cell {α : Type} {g : Operand} {ps : Array Tmp} {assign body : Code} {Q : Exit → Act → World → Prop} {a : Act} {w : World}
    (hro : F.round = none) (h1 : 1 ≤ n) {gf : Nat} {lb : Array Value} (hg : a.eval g = .func (.func gf) #[] lb) (hFg : F.fn gf) (eg : ∀ args w, (callFunc gf args).run P w = .ok (.enter gf args) w)
    {encs : α → Array Value} {bs : Nat} {ks : List Nat} {xs : List α} (hseq : Gives F (n - 1) P gf lb encs bs ks xs w) (hbs : bs < w.heap.size) (hks : ∀ k ∈ ks, k < w.heap.size) (hps : ∀ x, (encs x).size = ps.size)
    (I : List α → World → Prop) (hI : ∀ s W W' row, I s W → W.grownBy W' row → (∀ r, row = some r → r = bs ∨ w.heap.size ≤ r ∧ ∃ o : Obj, W.heap[r]? = some o ∧ o.isCells = false) → I s W')
    (h0 : I [] w) (a₁ : α → Act)
    (hassign : ∀ (l : Nat) (x : α) (W : World) (K : Act → World → Prop), K (a₁ x) W →
      assign.wpIn (F.inRound l) (n - 1 - 1) P (Exit.then K (fun _ _ _ => False)) { tmps := (ps.zip (encs x)).foldl (fun t (p, v) => t.setIfInBounds p v) a.tmps, defers := [] } W)
    (hbody : ∀ (l : Nat) (pre : List α) (x : α) (W : World), w.heap.size ≤ W.heap.size → I pre W → body.wpIn (F.inRound l) (n - 1 - 1) P (onward w.heap.size ks I (pre ++ [x]) W) (a₁ x) W)
    (hdone : ∀ (D : Nat) (W : World), w.heap.size ≤ D → w.heap.size ≤ W.heap.size → I xs W → W.heap[D]? = some (.deferred (some [])) → Q .normal { a with defers := { target := .collected D, args := #[] } :: a.defers } W) :
    (Code.rangeFunc g ps assign body).wpIn F n P Q a w := by
  refine wpIn_rangeFunc fun fn hfn => ?_
  rw [hro]
  obtain ⟨rec, hrec⟩ : ∃ rec : LoopState → Loop, rec = fun st => { state := st, pending := none, fn, tmps := a.tmps, params := ps, assign, body, defers := w.heap.size } := ⟨_, rfl⟩
  have hst : ∀ s, (rec s).state = s := fun s => by rw [hrec]
  have hwith : ∀ s t, ({ rec s with state := t } : Loop) = rec t := fun s t => by rw [hrec]
  obtain ⟨W1, hW1⟩ : ∃ W1, (w.alloc (.deferred (some []))).alloc (.loop (rec .ready)) = W1 := ⟨_, rfl⟩
  have hsz1 : W1.heap.size = w.heap.size + 2 := by rw [← hW1]; simp
  have hold : ∀ k, k < w.heap.size → W1.heap[k]? = w.heap[k]? := fun k hk => by
    rw [← hW1]
    exact (Below.heap_alloc _ _ k (by simp; omega)).trans (Below.heap_alloc w _ k hk)
  have hL : W1.heap[w.heap.size + 1]? = some (.loop (rec .ready)) := by
    rw [← hW1]
    have := World.alloc_heap_new (w.alloc (.deferred (some []))) (.loop (rec .ready))
    rwa [World.size_alloc] at this
  have hK : W1.heap[w.heap.size]? = some (.deferred (some [])) := by
    rw [← hW1]
    exact (Below.heap_alloc _ _ _ (by simp)).trans (World.alloc_heap_new w _)
  have hIw1 : I [] W1 := by
    rw [← hW1]
    exact hI _ _ _ none (hI _ _ _ none h0 (World.grownBy_alloc _ _ none) (fun r e => by cases e)) (World.grownBy_alloc _ _ none) (fun r e => by cases e)
  refine ⟨w.heap.size + 1, [{ target := .collected w.heap.size, args := #[] }], W1, { target := .fn (.func gf) lb, args := #[.func (.yield (w.heap.size + 1)) #[] #[]] }, W1, gf,
    #[.func (.yield (w.heap.size + 1)) #[] #[]] ++ lb, W1, ?_, ?_, ?_, ?_, fun _ => h1, ?_⟩
  · rw [← hW1, hrec]; exact run_enterLoop_outer _ _ _ _ _
  · simp only [resolve, hg]
    simp [go_sem]
  · intro f' hf'; simp [Target.leads] at hf'; subst hf'; exact hFg
  · simp [invoke, go_sem, eg]
  -- the three facts that stand between two rounds
  obtain ⟨J, hJ⟩ : ∃ J : List α → World → Prop, J = fun pre W => I pre W ∧ w.heap.size ≤ W.heap.size ∧ W.heap[w.heap.size + 1]? = some (.loop (rec .ready)) ∧ W.heap[w.heap.size]? = some (.deferred (some [])) := ⟨_, rfl⟩
  have hbear : Bears bs J := by
    intro s A B row hs hg' hr
    rw [hJ] at hs ⊢
    obtain ⟨h1, h2, h3, h4⟩ := hs
    have l3 := (Array.getElem?_eq_some_iff.1 h3).1
    have l4 := (Array.getElem?_eq_some_iff.1 h4).1
    exact ⟨hI s A B row h1 hg' (fun r e => .inl (hr r e)), Nat.le_trans h2 hg'.size, (hg'.block _ l3 (fun e => by have := hr _ e.symm; omega)).trans h3, (hg'.block _ l4 (fun e => by have := hr _ e.symm; omega)).trans h4⟩
  refine (hseq (w.heap.size + 1) J W1 hbear (fun k hk => hold k (hks k hk)) ?_ (by rw [hJ]; exact ⟨hIw1, by omega, hL, hK⟩)).mono ?_
  · intro pre x V hV
    rw [hJ] at hV
    obtain ⟨v1, v2, v3, v4⟩ := hV
    have hlt := (Array.getElem?_eq_some_iff.1 v3).1
    have hy := run_yield (P := P) (args := encs x) v3 (by rw [hrec]; exact hps x)
    rw [hrec] at hy
    refine ⟨fn, _, assign, body, hy, roundIn_of_wpIn hfn (hassign _ x V _ ⟨_, run_beginRound v3 (hst _), ?_⟩)⟩
    rw [hwith]
    have b3 : (V.putObj (w.heap.size + 1) (.loop (rec .busy))).heap[w.heap.size + 1]? = some (.loop (rec .busy)) := World.putObj_heap_same hlt
    have b4 : (V.putObj (w.heap.size + 1) (.loop (rec .busy))).heap[w.heap.size]? = some (.deferred (some [])) := (World.putObj_heap_other (by omega)).trans v4
    have b1 : I pre (V.putObj (w.heap.size + 1) (.loop (rec .busy))) := hI _ _ _ (some (w.heap.size + 1)) v1 (grownBy_putObj' V _ _) (fun r e => by cases e; exact .inr ⟨by omega, _, v3, rfl⟩)
    have b2 : w.heap.size ≤ (V.putObj (w.heap.size + 1) (.loop (rec .busy))).heap.size := Nat.le_trans v2 (grownBy_putObj' V (w.heap.size + 1) (.loop (rec .busy))).size
    refine wpIn_mono (hbody _ pre x _ b2 b1) ?_
    rintro e a3 W3 hp
    cases e with
    | normal =>
      obtain ⟨hk3, hks3, hi3⟩ := hp
      have c3 := hk3.same _ _ (by omega) b3 rfl
      have c4 := hk3.same _ _ (Nat.le_refl _) b4 rfl
      have hend := run_endRound (P := P) none c3
      simp only [Option.isNone_none, if_true] at hend
      have hw2 : ({ rec .busy with state := .ready, pending := none } : Loop) = rec .ready := by rw [hrec]
      rw [hw2] at hend
      refine ⟨_, _, hend, rfl, ?_, fun k hk => ?_⟩
      · rw [hJ]
        exact ⟨hI _ _ _ (some (w.heap.size + 1)) hi3 (grownBy_putObj' W3 _ _) (fun r e => by cases e; exact .inr ⟨by omega, _, c3, rfl⟩),
          Nat.le_trans (Nat.le_trans b2 hk3.size) (grownBy_putObj' W3 (w.heap.size + 1) _).size, World.putObj_heap_same (Array.getElem?_eq_some_iff.1 c3).1, (World.putObj_heap_other (by omega)).trans c4⟩
      · have hkw := hks k hk
        exact (World.putObj_heap_other (by omega)).trans ((hks3 k hk).trans (World.putObj_heap_other (by omega)))
    | ret => exact hp.elim
    | exit id => exact hp.elim
    | goto t => exact hp.elim
    | panic ch => exact hp.elim
    | outgrown => exact hp.elim
  · rintro e W2 ⟨⟨v, rfl⟩, hJ2⟩
    rw [hJ] at hJ2
    obtain ⟨j1, j2, j3, j4⟩ := hJ2
    have hend := run_endLoop (P := P) j3 (by rw [hst]; simp)
    have hpe : (rec .ready).pending = none := by rw [hrec]
    rw [hpe] at hend
    refine ⟨none, _, hend, hdone _ _ (Nat.le_refl _) ?_ (hI _ _ _ (some (w.heap.size + 1)) j1 (grownBy_putObj' W2 _ _) (fun r e => by cases e; exact .inr ⟨by omega, _, j3, rfl⟩)) ((World.putObj_heap_other (by omega)).trans j4)⟩
    exact Nat.le_trans j2 (grownBy_putObj' W2 (w.heap.size + 1) _).size
end Go.Proofs.YtajplppeijmfpaaDoor.Rfc

namespace Go.Proofs
open Go.Shelf
def Tryd.lays156_ren : Go.Shelf.Ren := ⟨fun | 156 => 45 | 165 => 67 | 166 => 52 | 169 => 55 | 240 => 71 | 241 => 79 | 276 => 83 | 277 => 88 | n => n, fun | 31 => 32 | 9 => 9 | 3 => 3 | 4 => 4 | 0 => 0 | 20 => 20 | 72 => 67 | 76 => 72 | 70 => 64 | 37 => 65 | 75 => 70 | 127 => 100 | 164 => 108 | 5 => 5 | 80 => 76 | n => n, fun | n => n⟩
theorem Tryd.lays156 : Go.Proofs.Lays.n156 Tryd.prog Tryd.lays156_ren := {
 mixed := by kernel_rfl
 f156 := Tryd.func45.trans (congrArg some (by kernel_rfl))
 f165 := Tryd.func67.trans (congrArg some (by kernel_rfl))
 f166 := Tryd.func52.trans (congrArg some (by kernel_rfl))
 f169 := Tryd.func55.trans (congrArg some (by kernel_rfl))
 f240 := Tryd.func71.trans (congrArg some (by kernel_rfl))
 f241 := Tryd.func79.trans (congrArg some (by kernel_rfl))
 f276 := Tryd.func83.trans (congrArg some (by kernel_rfl))
 f277 := Tryd.func88.trans (congrArg some (by kernel_rfl))
 t0 := Tryd.underlying0
 a0 := Tryd.isAgg0
 z0 := Tryd.sizeOf0
 v0 := Tryd.zeroValue0
 t3 := Tryd.underlying3
 a3 := Tryd.isAgg3
 z3 := Tryd.sizeOf3
 v3 := Tryd.zeroValue3
 t4 := Tryd.underlying4
 a4 := Tryd.isAgg4
 z4 := Tryd.sizeOf4
 v4 := Tryd.zeroValue4
 t9 := Tryd.underlying9
 a9 := Tryd.isAgg9
 z9 := Tryd.sizeOf9
 v9 := Tryd.zeroValue9
 t20 := Tryd.underlying20
 a20 := Tryd.isAgg20
 z20 := Tryd.sizeOf20
 v20 := Tryd.zeroValue20
 t31 := Tryd.underlying32
 a31 := Tryd.isAgg32
 z31 := Tryd.sizeOf32
 v31 := Tryd.zeroValue32
 t37 := Tryd.underlying65
 a37 := Tryd.isAgg65
 z37 := Tryd.sizeOf65
 v37 := Tryd.zeroValue65
 t70 := Tryd.underlying64
 a70 := Tryd.isAgg64
 z70 := Tryd.sizeOf64
 v70 := Tryd.zeroValue64
 t72 := Tryd.underlying67
 a72 := Tryd.isAgg67
 z72 := Tryd.sizeOf67
 v72 := Tryd.zeroValue67
 t75 := Tryd.underlying70
 a75 := Tryd.isAgg70
 z75 := Tryd.sizeOf70
 v75 := Tryd.zeroValue70
 t76 := Tryd.underlying72
 a76 := Tryd.isAgg72
 z76 := Tryd.sizeOf72
 v76 := Tryd.zeroValue72
 t127 := Tryd.underlying100
 a127 := Tryd.isAgg100
 z127 := Tryd.sizeOf100
 v127 := Tryd.zeroValue100
 t164 := Tryd.underlying108
 a164 := Tryd.isAgg108
 z164 := Tryd.sizeOf108
 v164 := Tryd.zeroValue108 }
theorem Tryd.Builder_Extra_156 : Builder.Extra Tryd.prog Tryd.lays156_ren := {
 sizeBuilder := by kernel_rfl
 liesBuilder := by kernel_rfl
 t5 := Tryd.underlying5
 a5 := Tryd.isAgg5
 z5 := Tryd.sizeOf5
 v5 := Tryd.zeroValue5
 infoByte := by kernel_rfl
 cellsByte := by kernel_rfl
 sizeByte := by kernel_rfl
 neB5 := by decide }
open Go.RowKit in
theorem Tryd.strings_Join_none (a : Option Addr) (c : Nat) (sep : ByteArray) (w : World) :
 Calls Tryd.prog 45 #[.slice a 0 c, .string sep] w fun e w' => e = .returned (.string ⟨#[]⟩) ∧ w' = w := Any.strings_Join_none Tryd.lays156 Tryd.Builder_Extra_156 a c sep w
open Go.RowKit in
theorem Tryd.strings_Join (bk o c : Nat) (xs : List ByteArray) (sep : ByteArray) (w : World) (hcells : ∀ (j : Nat) x, xs[j]? = some x → w.cell? ⟨bk, o + j, none⟩ = some (.string x)) (hbk : bk < w.heap.size) (hN : xs.length ≤ 140737488355328) (hcap : xs.length ≤ c) (hlen : (Lib.join (xs.map (·.data.toList)) sep.data.toList).length ≤ 140737488355328) :
 Calls Tryd.prog 45 #[.slice (some ⟨bk, o, none⟩) xs.length c, .string sep] w fun e w' => e = .returned (.string ⟨(Lib.join (xs.map (·.data.toList)) sep.data.toList).toArray⟩) ∧ Below w.heap.size w w' := Any.strings_Join Tryd.lays156 Tryd.Builder_Extra_156 bk o c xs sep w hcells hbk hN hcap hlen
def Tryd.lays143_ren : Go.Shelf.Ren := ⟨fun | 143 => 82 | 219 => 91 | 217 => 95 | 225 => 96 | 224 => 97 | 267 => 98 | 266 => 99 | 314 => 100 | n => n, fun | 9 => 9 | 3 => 3 | 4 => 4 | 5 => 5 | 46 => 110 | 146 => 118 | 51 => 117 | n => n, fun | 1 => 0 | n => n⟩
theorem Tryd.lays143 : Go.Proofs.Lays.n143 Tryd.prog Tryd.lays143_ren := {
 mixed := by kernel_rfl
 f143 := Tryd.func82.trans (congrArg some (by kernel_rfl))
 f217 := Tryd.func95.trans (congrArg some (by kernel_rfl))
 f219 := Tryd.func91.trans (congrArg some (by kernel_rfl))
 f224 := Tryd.func97.trans (congrArg some (by kernel_rfl))
 f225 := Tryd.func96.trans (congrArg some (by kernel_rfl))
 f266 := Tryd.func99.trans (congrArg some (by kernel_rfl))
 f267 := Tryd.func98.trans (congrArg some (by kernel_rfl))
 f314 := Tryd.func100.trans (congrArg some (by kernel_rfl))
 t3 := Tryd.underlying3
 a3 := Tryd.isAgg3
 z3 := Tryd.sizeOf3
 v3 := Tryd.zeroValue3
 t4 := Tryd.underlying4
 a4 := Tryd.isAgg4
 z4 := Tryd.sizeOf4
 v4 := Tryd.zeroValue4
 t5 := Tryd.underlying5
 a5 := Tryd.isAgg5
 z5 := Tryd.sizeOf5
 v5 := Tryd.zeroValue5
 t9 := Tryd.underlying9
 a9 := Tryd.isAgg9
 z9 := Tryd.sizeOf9
 v9 := Tryd.zeroValue9
 t46 := Tryd.underlying110
 a46 := Tryd.isAgg110
 z46 := Tryd.sizeOf110
 v46 := Tryd.zeroValue110
 t51 := Tryd.underlying117
 a51 := Tryd.isAgg117
 z51 := Tryd.sizeOf117
 v51 := Tryd.zeroValue117
 t146 := Tryd.underlying118
 a146 := Tryd.isAgg118
 z146 := Tryd.sizeOf118
 v146 := Tryd.zeroValue118
 g1 := by kernel_rfl }
open Go.RowKit Go.Lib in
theorem Tryd.strings_Index_one (s : ByteArray) (c : UInt8) (w : World) :
 Calls Tryd.prog 82 #[.string s, .string ⟨#[c]⟩] w fun e w' => e = .returned (.int .i64 (Lib.indexByte s.data.toList c)) ∧ w' = w := Any.strings_Index_one Tryd.lays143 s c w
end Go.Proofs

namespace Go.Proofs.YtajplppeijmfpaaDoor.Fl
open Go Go.RowKit Go.Shelf Go.Proofs.YtajplppeijmfpaaDoor.Rfc
set_option linter.unusedVariables false
set_option linter.unusedSimpArgs false
attribute [local go_sem] Oper.semAt_some
def spB (s : ByteArray) : List ByteArray := (sp s.data.toList).map fun l => ⟨l.toArray⟩
theorem sp_cons (c : UInt8) (r : List UInt8) : sp (c :: r) = if c = 32 then [] :: sp r else match sp r with | a :: t => (c :: a) :: t | [] => [[c]] := rfl
theorem indexByte_cons (c : UInt8) (r : List UInt8) : Lib.indexByte (c :: r) 32 = if c == 32 then 0 else if Lib.indexByte r 32 == -1 then -1 else Lib.indexByte r 32 + 1 := rfl
theorem index_cases (s : List UInt8) : (Lib.indexByte s 32 = -1 ∧ sp s = [s]) ∨ ∃ i : Nat, Lib.indexByte s 32 = i ∧ i < s.length ∧ sp s = s.take i :: sp (s.drop (i + 1)) := by
 induction s with
 | nil => left; exact ⟨by decide, rfl⟩
 | cons c r ih =>
  rw [sp_cons, indexByte_cons]
  by_cases hc : c = 32
  ·right
   exact ⟨0, by simp [hc], by simp, by simp [hc]⟩
  ·rcases ih with ⟨h1, h2⟩ | ⟨i, h1, h2, h3⟩
   ·left
    rw [h1, h2]; simp [hc]
   ·right
    refine ⟨i + 1, ?_, by simpa using h2, ?_⟩
    ·rw [h1]
     simp [hc]
    ·rw [if_neg hc, h3]
     simp
theorem wrap_sm {i : Int} (h0 : -9223372036854775808 ≤ i) (h : i ≤ 9223372036854775807) : wrap64 i = i := by unfold wrap64; omega
theorem ex_list (s : ByteArray) (i j : Nat) : (s.extract i j).data.toList = (s.data.toList.take j).drop i := by
 rw [Lib.extract_data]; simp [List.drop_take]
theorem spt_bytes (s : ByteArray) : (⟨s.data.toList.toArray⟩ : ByteArray) = s := rfl
theorem ex_size (s : ByteArray) (i j : Nat) : (s.extract i j).size = min j s.size - i := by simp
theorem gb_box (w : World) (g j : Nat) (u : Value) : w.grownBy (w.setCell ⟨g, j, none⟩ u) (some g) :=
 ⟨rfl, rfl, rfl, by simp, fun k _ hk => heap_setCell_other w ⟨g, j, none⟩ k u (fun e => hk (by simp [e]))⟩
theorem box_cell {w : World} {b : Nat} {v : Value} {t : TypeId} (h : w.heap[b]? = some (.cells #[v] t (0, 0))) : w.cell? ⟨b, 0, none⟩ = some v ∧ w.frozen? ⟨b, 0, none⟩ = false := by
 constructor <;> simp [World.cell?, World.frozen?, h]
set_option maxRecDepth 100000 in
set_option maxHeartbeats 1000000 in
theorem iter_gives (s : ByteArray) (b : Nat) (w : World) (n : Nat) (hn : 3 ≤ n) (hsz : s.size ≤ 9223372036854775807) (hs : w.heap[b]? = some (.cells #[.string s] 9 (0, 0)))
  (hsep : w.heap[b + 1]? = some (.cells #[.string ⟨#[32]⟩] 9 (0, 0))) (hsv : w.heap[b + 1 + 1]? = some (.cells #[.int .i64 0] 3 (0, 0))) :
  Gives Fence.wide n Tryd.prog 86 #[.pointer (some ⟨b + 1, 0, none⟩), .pointer (some ⟨b, 0, none⟩), .pointer (some ⟨b + 1 + 1, 0, none⟩)] (fun x : ByteArray => #[.string x]) b [b, b + 1, b + 1 + 1] (spB s) w := by
 intro l J W hJ hks hY h0
 have hd : 1 ≤ n - 1 := by omega
 have h1n : 1 ≤ n := by omega
 refine callsIn_of_wp Tryd.func86 rfl trivial ?_ rfl; simp only [Tryd.ntmps86, List.size_toArray, List.length_cons, List.length_nil, Nat.reduceAdd, Nat.reduceSub, Array.replicate_succ, Array.replicate_zero, List.push_toArray, List.append_toArray, List.nil_append, List.cons_append]; have e0 := (hks b (by simp)).trans hs; have e1 := (hks (b + 1) (by simp)).trans hsep; have e2 := (hks (b + 1 + 1) (by simp)).trans hsv; have c0 := box_cell e0; have c1 := box_cell e1; have c2 := box_cell e2; obtain ⟨c0, f0⟩ := c0; obtain ⟨c1, f1⟩ := c1; obtain ⟨c2, f2⟩ := c2
 gi_wp2
 gi_loopw [7] (fun _ wr => ∃ (pre : List ByteArray) (rest : ByteArray), rest.size ≤ s.size ∧ spB s = pre ++ spB rest ∧ wr.heap[b]? = some (.cells #[.string rest] 9 (0, 0)) ∧
  wr.heap[b + 1]? = some (.cells #[.string ⟨#[32]⟩] 9 (0, 0)) ∧ wr.heap[b + 1 + 1]? = some (.cells #[.int .i64 0] 3 (0, 0)) ∧ J pre wr)
  (fun _ wr => match wr.cell? ⟨b, 0, none⟩ with | some (.string x) => x.size | _ => 0)
 case atStart =>
  exact ⟨[], s, Nat.le_refl _, rfl, e0, e1, e2, h0⟩
 case round =>
  obtain ⟨pre, rest, hle, hpre, r0, r1, r2, hj⟩ := hrel; obtain ⟨c0, f0⟩ := box_cell r0; obtain ⟨c1, f1⟩ := box_cell r1; obtain ⟨c2, f2⟩ := box_cell r2; have I := Tryd.strings_Index_one rest 32 wr
  rcases index_cases rest.data.toList with ⟨hi, hsp⟩ | ⟨i, hi, hlt, hsp⟩
  ·rw [hi] at I
   obtain ⟨fn, tmps, assign, body, hy, hR⟩ := hY pre rest wr hj
   have hend : spB s = pre ++ [rest] := by rw [hpre, spB, hsp]; rfl
   gi_wp2_with (refine ⟨trivial, ?_⟩; gi_at_call 82; refine (callsIn_wide.2 I).mono ?_; clear I; rintro e wr ⟨rfl, rfl⟩)
   refine hR.mono ?_; rintro e W2 ⟨rfl, hj2, hk2⟩
   gi_wp2
   go_end0
   exact ⟨⟨_, rfl⟩, by rw [hend]; exact hj2⟩
  ·rw [hi] at I
   have hrl : rest.data.toList.length = rest.size := by rw [Array.length_toList]; rfl
   have HL := Lib.hid (show i + 1 ≤ rest.size ∧ rest.data.toList.length = rest.size from ⟨by omega, hrl⟩)
   have c3 : (0 : Int) ≤ ↑i := by omega
   have c8 : wrap64 (↑i : Int) = ↑i := wrap_sm (by omega) (by omega); have c9 : wrap64 (↑i + 1 : Int) = ↑i + 1 := wrap_sm (by omega) (by omega)
   have c7 : ¬ ((↑i : Int) < 0) := by omega
   have c4 : (↑i : Int) ≤ ↑rest.size := by omega
   have c5 : (↑i + 1 : Int) ≤ ↑rest.size := by omega
   have c6 : (0 : Int) ≤ ↑i + 1 := by omega
   obtain ⟨fn, tmps, assign, body, hy, hR⟩ := hY pre (rest.extract 0 i) wr hj
   gi_wp2_with (refine ⟨trivial, ?_⟩; gi_at_call 82; refine (callsIn_wide.2 I).mono ?_; clear I; rintro e wr ⟨rfl, rfl⟩)
   refine hR.mono ?_; rintro e W2 ⟨rfl, hj2, hk2⟩; obtain ⟨c0', f0'⟩ := box_cell ((hk2 b (by simp)).trans r0); obtain ⟨c1', f1'⟩ := box_cell ((hk2 (b + 1) (by simp)).trans r1); obtain ⟨c2', f2'⟩ := box_cell ((hk2 (b + 1 + 1) (by simp)).trans r2)
   gi_wp2
   obtain ⟨hl1, hl2⟩ := HL.out
   have hsp2 : spB rest = rest.extract 0 i :: spB (rest.extract (i + 1) rest.size) := by
    unfold spB; rw [hsp, List.map_cons, ex_list, List.take_of_length_le (i := rest.size) (by rw [hl2]; exact Nat.le_refl _)]
    congr 1
    rw [← spt_bytes (rest.extract 0 i), ex_list, List.drop_zero]
   have k0 := (hk2 b (by simp)).trans r0; have k1 := (hk2 (b + 1) (by simp)).trans r1; have k2 := (hk2 (b + 1 + 1) (by simp)).trans r2; have hset := heap_setCell_same W2 b 0 #[.string rest] 9 (.string (rest.extract (i + 1) rest.size)) k0
   refine ⟨⟨pre ++ [rest.extract 0 i], rest.extract (i + 1) rest.size, ?_, by rw [hpre, hsp2, List.append_assoc]; rfl, hset, (Below.heap_setCell W2 _ _ _ (by show b + 1 ≠ b; omega)).trans k1, (Below.heap_setCell W2 _ _ _ (by show b + 1 + 1 ≠ b; omega)).trans k2,
    hJ _ _ _ (some b) hj2 (gb_box W2 b 0 _) (fun r e => by cases e; rfl)⟩, ?_⟩
   ·have := ex_size rest (i + 1) rest.size
    omega
   ·rw [(box_cell hset).1, c0]
    have := ex_size rest (i + 1) rest.size; simp only
    omega
end Go.Proofs.YtajplppeijmfpaaDoor.Fl

namespace Go.Proofs.YtajplppeijmfpaaDoor.Fl
open Go Go.RowKit
set_option maxHeartbeats 400000
theorem all_any (a b : Int) (w : World) : Calls Tryd.prog 42 #[.int .i64 a, .int .i64 b] w fun e w' => e = .returned (.bool (band a b == b)) ∧ w' = w := by
 go_enter Tryd.func42, Tryd.ntmps42; go_wp2; go_ret
 exact ⟨rfl, rfl⟩
theorem checkMethod_any (f : Int) (b : Bool) (s : ByteArray) (w : World) :
  Calls Tryd.prog 16 #[.int .i64 f, .bool b, .string s] w fun e w' => e = .returned (.int .i64 (checkMethod f b (s.toList == [60, 105, 110, 105, 116, 62]))) ∧ w' = w := by
 go_enter Tryd.func16, Tryd.ntmps16; go_wp2_with (go_at_call 42; refine (all_any _ _ _).mono ?_; rintro e w' ⟨rfl, rfl⟩)
 all_goals
  go_ret; refine ⟨ret_int ?_, rfl⟩
  simp_all [checkMethod, band, bandn]
theorem checkClass_any (f : Int) (w : World) :
  Calls Tryd.prog 14 #[.int .i64 f] w fun e w' => e = .returned (.int .i64 (checkClass f)) ∧ w' = w := by
 go_enter Tryd.func14, Tryd.ntmps14; go_wp2_with (go_at_call 42; refine (all_any _ _ _).mono ?_; rintro e w' ⟨rfl, rfl⟩)
 all_goals
  go_ret; refine ⟨ret_int ?_, rfl⟩
  simp_all [checkClass, band, bandn]
end Go.Proofs.YtajplppeijmfpaaDoor.Fl

namespace Go.Proofs.YtajplppeijmfpaaDoor.Fl
open Go Go.RowKit
set_option maxHeartbeats 400000
def wordsV : Value := .agg #[.int .i64 1, .string ⟨wPublic.toArray⟩, .int .i64 2, .string ⟨wPrivate.toArray⟩, .int .i64 4, .string ⟨wProtected.toArray⟩, .int .i64 8, .string ⟨wStatic.toArray⟩,
 .int .i64 16, .string ⟨wFinal.toArray⟩, .int .i64 32, .string ⟨wSuper.toArray⟩, .int .i64 512, .string ⟨wInterface.toArray⟩, .int .i64 1024, .string ⟨wAbstract.toArray⟩]
theorem words_any (w : World) : Calls Tryd.prog 63 #[] w fun e w' => e = .returned wordsV ∧ Below w.heap.size w w' := by
 go_enter Tryd.func63, Tryd.ntmps63; go_wp2
 exact bodyPost_ret (v := wordsV) (by simp [results, Tryd.results63, go_sem, wordsV, wPublic, wPrivate, wProtected, wStatic, wFinal, wSuper, wInterface, wAbstract]) rfl ⟨rfl, (Below.refl _ _).alloc (Nat.le_refl _) _⟩
theorem infoS : (Tryd.prog.info? 9).map (fun i => (i.zero, i.size, i.bytes)) = some (some (.string ⟨#[]⟩), 1, 16) := by kernel_rfl
def flagAt (k : Nat) : Int := (allWords.map (·.1)).getD k 0
def wordAt (k : Nat) : List UInt8 := (allWords.map (·.2)).getD k []
theorem index_words (k : Nat) (hk : k < 8) (w : World) : (Instr.index 92 wordsV (.int .i64 (k : Int))).run Tryd.prog w = .ok (.agg #[.int .i64 (flagAt k), .string ⟨(wordAt k).toArray⟩]) w := by
 have h8 : k = 0 ∨ k = 1 ∨ k = 2 ∨ k = 3 ∨ k = 4 ∨ k = 5 ∨ k = 6 ∨ k = 7 := by omega
 rcases h8 with rfl | rfl | rfl | rfl | rfl | rfl | rfl | rfl
 all_goals (show _ = _; kernel_rfl)
def strsL (l : List (List UInt8)) : List Value := l.map fun s => Value.string ⟨s.toArray⟩
def wk (f : Int) (k : Nat) : List (List UInt8) := wordsOf f (allWords.take k)
theorem wk_len (f : Int) (k : Nat) : (wk f k).length ≤ 8 := by
 unfold wk wordsOf; rw [List.length_map]; refine Nat.le_trans (List.length_filter_le _ _) (Nat.le_trans (List.length_take_le' _ _) (by decide))
theorem wk_snoc (f : Int) (k : Nat) (hk : k < 8) : wk f (k + 1) = if band f (flagAt k) = 0 then wk f k else wk f k ++ [wordAt k] := by
 have h : allWords.take (k + 1) = allWords.take k ++ [(flagAt k, wordAt k)] := by
  match k, hk with
  | 0, _ => rfl
  | 1, _ => rfl
  | 2, _ => rfl
  | 3, _ => rfl
  | 4, _ => rfl
  | 5, _ => rfl
  | 6, _ => rfl
  | 7, _ => rfl
 unfold wk wordsOf; rw [h, List.filter_append]
 by_cases hb : band f (flagAt k) = 0 <;> simp [hb]
theorem joinB_eq (l : List (List UInt8)) : joinB l = Lib.join l [32] := by
 match l with
 | [] => rfl
 | [a] => simp [joinB, Lib.join_one]
 | a :: b :: r =>
  rw [joinB, joinB_eq (b :: r), Lib.join_cons, Lib.join_cons]; simp [Lib.joinTail]
theorem joinB_len (l : List (List UInt8)) (h : ∀ a ∈ l, a.length ≤ 10) : (joinB l).length ≤ 11 * l.length := by
 match l with
 | [] => simp [joinB]
 | [a] => have := h a (by simp); simp only [joinB, List.length_cons, List.length_nil]; omega
 | a :: b :: r =>
  have := joinB_len (b :: r) (fun x hx => h x (by simp [hx])); have h2 := h a (by simp); simp only [joinB, List.length_append, List.length_cons] at this ⊢
  omega
theorem wk_short (f : Int) (k : Nat) : ∀ a ∈ wk f k, a.length ≤ 10 := by
 intro a ha; simp only [wk, wordsOf, List.mem_map, List.mem_filter] at ha; obtain ⟨p, ⟨hp, _⟩, rfl⟩ := ha; have hp := List.mem_of_mem_take hp
 have : ∀ q ∈ allWords, q.2.length ≤ 10 := by decide
 exact this p hp
theorem text_any (f among : Int) (w : World) :
  Calls Tryd.prog 41 #[.int .i64 f, .int .i64 among] w fun e w' => e = .returned (.tuple #[.string ⟨(text f among).1.toArray⟩, .int .i64 (text f among).2]) ∧ Below w.heap.size w w' := by
 go_enter Tryd.func41, Tryd.ntmps41; go_wp2_with (go_at_call 63; refine (words_any _).mono ?_; rintro e w1 ⟨rfl, hb⟩)
 ·go_ret2
  refine ⟨?_, Below.refl _ _⟩; rw [text, if_pos (by simp_all [bandn])]
  rfl
 have hamong := Lib.hid (show bandn f among = 0 by simp_all [bandn]); have hb' := Lib.hid hb; clear hb
 go_loopw [6, 14] (fun v6 i wr => ∃ k : Nat, k ≤ 8 ∧ i = .int .i64 k ∧ wr.ownsRow w.heap.size 9 1 v6 (wk f k).length (strsL (wk f k)) ∧ Below w.heap.size w wr) (fun _ i _ => 8 - (intOf i).toNat)
 case atStart => exact ⟨0, Nat.zero_le _, rfl, World.ownsRow_nil _ _ _ _, hb'.out⟩
 case round =>
  obtain ⟨k, hk, rfl, hown, hB⟩ := hrel; have HO := Lib.hid hown; have HB := Lib.hid hB; have hsz := hB.size; clear hown hB hb'
  by_cases hlt : k < 8
  ·have hix := index_words k hlt
   have hsn := wk_snoc f k hlt; have hlen := wk_len f k; generalize flagAt k = fl at *; generalize wordAt k = wd at *; generalize wk f k = xs at *; replace hsn := Lib.hid hsn; go_wp2_with (at_builtin; go_loud (refine append1 w.heap.size rfl _ _ _ 9 (.string ⟨#[]⟩) 1 16 rfl Tryd.underlying32 infoS rfl (by decide) _ _ _ [.string ⟨wd.toArray⟩] rfl _ (by simp) rfl rfl (by simp [Value.oneCell']) (HO.out.alloc _) (by simp; omega) (by omega) (by omega) ?_); intro v1 w1 hown1 hg1)
   ·have hown2 : w1.ownsRow w.heap.size 9 1 v1 (xs ++ [wd]).length (strsL (xs ++ [wd])) := by simpa [strsL] using hown1
    go_roundw
    case rel => exact ⟨k + 1, by omega, by go_num, by rw [hsn.out, if_neg (by simp_all [band])]; exact hown2, (HB.out.alloc (by omega) _).grown hg1 (by simp; omega) (own_base HO.out)⟩
    case measure => simp [intOf]; omega
   ·go_roundw
    case rel => exact ⟨k + 1, by omega, by go_num, by rw [hsn.out, if_pos (by simp_all [band])]; exact HO.out.alloc _, HB.out.alloc (by omega) _⟩
    case measure => simp [intOf]; omega
  ·obtain rfl : k = 8 := by omega
   have hmap : Lib.join (((wk f 8).map fun s => (⟨s.toArray⟩ : ByteArray)).map (·.data.toList)) (⟨#[32]⟩ : ByteArray).data.toList = joinB (wk f 8) := by
    rw [List.map_map]
    have : (fun x : ByteArray => x.data.toList) ∘ (fun s : List UInt8 => (⟨s.toArray⟩ : ByteArray)) = id := by funext s; rfl
    rw [this, List.map_id, joinB_eq]
   have hfin : text f among = (joinB (wk f 8), 0) := by
    rw [text, if_neg (by simp [hamong.out])]
    rfl
   have hjl := joinB_len (wk f 8) (wk_short f 8); have hlen := wk_len f 8
   rcases Nat.eq_zero_or_pos (wk f 8).length with h0 | hpos
   ·obtain ⟨A, c, rfl⟩ := own_shape HO.out
    have hz : wk f 8 = [] := List.eq_nil_of_length_eq_zero h0; rw [hz] at hfin; clear hmap; replace hfin := Lib.hid hfin; rw [h0]; clear hlt hamong hjl hlen hk h0 hz; go_wp2_with (go_at_call 45; refine (Tryd.strings_Join_none _ _ _ _).mono ?_; rintro e w2 ⟨rfl, rfl⟩); go_ret2
    exact ⟨by rw [hfin.out]; rfl, HB.out⟩
   ·obtain ⟨g, cap, rfl, hgb, hgl⟩ := HO.out.form hpos
    have hcap := own_cap HO.out
    have J := Tryd.strings_Join g 0 cap ((wk f 8).map fun s => (⟨s.toArray⟩ : ByteArray)) ⟨#[32]⟩ wr (fun j x hx => by
     rw [Nat.zero_add]; refine own_cell HO.out j _ ?_; simp only [List.getElem?_map, Option.map_eq_some_iff, strsL] at hx ⊢; obtain ⟨a, ha, rfl⟩ := hx
     exact ⟨a, ha, rfl⟩) hgl (by simp; omega) (by simpa using hcap) (by
     rw [hmap]; omega)
    rw [List.length_map, hmap] at J; clear hmap; generalize joinB (wk f 8) = res at *; replace J := Lib.hid J; replace hfin := Lib.hid hfin; clear hlt hamong hjl hlen hk hpos hcap; go_wp2_with (go_at_call 45; refine J.out.mono ?_; rintro e w2 ⟨rfl, hb2⟩); go_ret2
    exact ⟨by rw [hfin.out]; rfl, HB.out.trans (hb2.mono hsz)⟩
end Go.Proofs.YtajplppeijmfpaaDoor.Fl

namespace Go.Proofs.YtajplppeijmfpaaDoor.Fl
open Go Go.RowKit Go.Shelf Go.Proofs.YtajplppeijmfpaaDoor.Rfc
set_option linter.unusedVariables false
set_option linter.unusedSimpArgs false
attribute [local go_sem] Oper.semAt_some
theorem splitSeq_any (s : ByteArray) (w : World) : Calls Tryd.prog 62 #[.string s, .string ⟨#[32]⟩] w fun e w' =>
  e = .returned (.func (.func 86) #[] #[.pointer (some ⟨w.heap.size + 1, 0, none⟩), .pointer (some ⟨w.heap.size, 0, none⟩), .pointer (some ⟨w.heap.size + 1 + 1, 0, none⟩)]) ∧
  w' = ((w.alloc (.cells #[.string s] 9)).alloc (.cells #[.string ⟨#[32]⟩] 9)).alloc (.cells #[.int .i64 0] 3) := by
 have C : ∀ w : World, Calls Tryd.prog 76 #[.string s, .string ⟨#[32]⟩, .int .i64 0] w fun e w' =>
  e = .returned (.func (.func 86) #[] #[.pointer (some ⟨w.heap.size + 1, 0, none⟩), .pointer (some ⟨w.heap.size, 0, none⟩), .pointer (some ⟨w.heap.size + 1 + 1, 0, none⟩)]) ∧
  w' = ((w.alloc (.cells #[.string s] 9)).alloc (.cells #[.string ⟨#[32]⟩] 9)).alloc (.cells #[.int .i64 0] 3) := by
  intro w; go_enter Tryd.func76, Tryd.ntmps76; go_wp2; go_ret
  exact ⟨rfl, rfl⟩
 go_enter Tryd.func62, Tryd.ntmps62; go_wp2_with (go_at_call 76; refine (C _).mono ?_; clear C; rintro e w' ⟨rfl, rfl⟩); go_ret
 exact ⟨rfl, rfl⟩
def listsOf (l : List ByteArray) : List (List UInt8) := l.map (·.data.toList)
theorem listsOf_sp (s : ByteArray) : listsOf (spB s) = sp s.data.toList := by
 unfold listsOf spB; rw [List.map_map]
 conv => rhs; rw [← List.map_id (sp s.data.toList)]
 rfl
theorem orW_snoc (among : Int) (x : List UInt8) (f : Int) (k : Nat) (hk : k < 8) : orW among x f (allWords.take (k + 1)) =
  if wordAt k = x then bits .or .i64 (orW among x f (allWords.take k)) (band (flagAt k) among) else orW among x f (allWords.take k) := by
 have hl : allWords.length = 8 := rfl; rw [List.take_succ_eq_append_getElem (by omega), orW_append]
 have h1 : wordAt k = (allWords[k]'(by omega)).2 := by simp [wordAt, hl, hk]
 have h2 : flagAt k = (allWords[k]'(by omega)).1 := by simp [flagAt, hl, hk]
 rw [h1, h2]
 rfl
theorem keeps_below {B : Nat} {W V : World} (h : Below W.heap.size W V) : KeepsFrom B W V := ⟨h.size, fun k o _ hk _ => (h.block k (Array.getElem?_eq_some_iff.1 hk).1).trans hk⟩
theorem cell_keep {w : World} {a : Addr} {v : Value} (h : w.cell? a = some v) (o : Obj) : (w.alloc o).cell? a = some v :=
 (World.cell?_of_block (Below.heap_alloc w o a.block (World.block_lt_of_cell? w a h))).trans h
theorem frozen_keep {w : World} {a : Addr} {v : Value} {b : Bool} (h : w.cell? a = some v) (k : w.frozen? a = b) (o : Obj) : (w.alloc o).frozen? a = b :=
 (World.frozen?_of_block (Below.heap_alloc w o a.block (World.block_lt_of_cell? w a h))).trans k
theorem alloc_at (w : World) (o : Obj) (k : Nat) (h : k = w.heap.size) : (w.alloc o).heap[k]? = some o := by subst h; exact World.alloc_heap_new w o
theorem orS_snoc (among f : Int) (l : List (List UInt8)) (x : List UInt8) : orS among f (l ++ [x]) = orW among x (orS among f l) allWords := by simp [orS]
set_option maxRecDepth 100000 in
set_option maxHeartbeats 1000000 in
theorem parse_any (s : ByteArray) (hsz : s.size ≤ 9223372036854775807) (among : Int) (w : World) :
  Calls Tryd.prog 35 #[.string s, .int .i64 among] w fun e w' => e = .returned (.tuple #[.int .i64 (parse s.data.toList among).1, .int .i64 (parse s.data.toList among).2]) ∧ Below w.heap.size w w' := by
 refine (callsIn_wide (n := 8)).1 ?_; refine callsIn_of_wp_marks Tryd.func35 rfl trivial ?_ rfl; simp only [Tryd.ntmps35, List.size_toArray, List.length_cons, List.length_nil, Nat.reduceAdd, Nat.reduceSub, Array.replicate_succ, Array.replicate_zero, List.push_toArray, List.append_toArray, List.nil_append, List.cons_append]; have S := splitSeq_any s
 gi_wp2_with (refine ⟨trivial, ?_⟩; gi_at_call 62; refine (callsIn_wide.2 (S _)).mono ?_; clear S; rintro e w1 ⟨rfl, rfl⟩)
 obtain ⟨W0, hW0⟩ : ∃ W0, ((((w.alloc (.cells #[.int .i64 among] 3)).alloc (.cells #[.int .i64 0] 3)).alloc (.cells #[.string s] 9)).alloc (.cells #[.string ⟨#[32]⟩] 9)).alloc (.cells #[.int .i64 0] 3) = W0 := ⟨_, rfl⟩
 have z0 : W0.heap.size = w.heap.size + 5 := by rw [← hW0]; simp
 have hB0 : Below w.heap.size w W0 := by
  rw [← hW0]
  exact (((((Below.refl _ w).alloc (Nat.le_refl _) _).alloc (by simp) _).alloc (by simp; omega) _).alloc (by simp; omega) _).alloc (by simp; omega) _
 have b0 : W0.heap[w.heap.size]? = some (.cells #[.int .i64 among] 3 (0, 0)) := by
  rw [← hW0]
  exact (Below.heap_alloc _ _ _ (by simp <;> omega)).trans ((Below.heap_alloc _ _ _ (by simp <;> omega)).trans ((Below.heap_alloc _ _ _ (by simp <;> omega)).trans ((Below.heap_alloc _ _ _ (by simp <;> omega)).trans (alloc_at _ _ _ (by simp)))))
 have b1 : W0.heap[w.heap.size + 1]? = some (.cells #[.int .i64 0] 3 (0, 0)) := by
  rw [← hW0]
  exact (Below.heap_alloc _ _ _ (by simp <;> omega)).trans ((Below.heap_alloc _ _ _ (by simp <;> omega)).trans ((Below.heap_alloc _ _ _ (by simp <;> omega)).trans (alloc_at _ _ _ (by simp))))
 have b2 : W0.heap[w.heap.size + 1 + 1]? = some (.cells #[.string s] 9 (0, 0)) := by
  rw [← hW0]
  exact (Below.heap_alloc _ _ _ (by simp <;> omega)).trans ((Below.heap_alloc _ _ _ (by simp <;> omega)).trans (alloc_at _ _ _ (by simp)))
 have b3 : W0.heap[w.heap.size + 1 + 1 + 1]? = some (.cells #[.string ⟨#[32]⟩] 9 (0, 0)) := by
  rw [← hW0]
  exact (Below.heap_alloc _ _ _ (by simp <;> omega)).trans (alloc_at _ _ _ (by simp))
 have b4 : W0.heap[w.heap.size + 1 + 1 + 1 + 1]? = some (.cells #[.int .i64 0] 3 (0, 0)) := by
  rw [← hW0]
  exact (alloc_at _ _ _ (by simp))
 rw [hW0]; have hro : Fence.wide.round = none := rfl
 refine wpIn_rangeFunc_cell (α := ByteArray) hro (by decide) (gf := 86) rfl trivial (enters_of Tryd.func86 (by kernel_rfl) rfl)
  (iter_gives s (w.heap.size + 1 + 1) W0 (8 - 1) (by decide) hsz b2 b3 b4) (by omega) (by intro k hk; simp at hk; omega) (fun _ => rfl)
  (fun pre W => W.cell? ⟨w.heap.size, 0, none⟩ = some (.int .i64 among) ∧ W.cell? ⟨w.heap.size + 1, 0, none⟩ = some (.int .i64 (orS among 0 (listsOf pre))) ∧ W.frozen? ⟨w.heap.size + 1, 0, none⟩ = false ∧ Below w.heap.size w W)
  ?own ⟨(box_cell b0).1, (box_cell b1).1, (box_cell b1).2, hB0⟩
  (fun x => { tmps := #[.string s, .int .i64 among, undef, .pointer (some ⟨w.heap.size, 0, none⟩), .int .i64 0, .int .i64 0, .pointer (some ⟨w.heap.size + 1, 0, none⟩), .string x, undef, undef, undef, undef, .string s,
   .func (.func 86) #[] #[.pointer (some ⟨w.heap.size + 1 + 1 + 1, 0, none⟩), .pointer (some ⟨w.heap.size + 1 + 1, 0, none⟩), .pointer (some ⟨w.heap.size + 1 + 1 + 1 + 1, 0, none⟩)], .string x,
   undef, undef, undef, undef, undef, undef, undef, undef, undef, undef, undef, undef, undef, undef, undef, undef, undef, undef, undef, undef, undef, undef, undef, undef, undef], defers := [] })
  ?assign ?body ?done
 case own =>
  rintro pre A B row ⟨h1, h2, h3, h4⟩ hg hr
  have hne : ∀ j v, A.cell? ⟨j, 0, none⟩ = some v → j < w.heap.size + 2 → some j ≠ row := by
   intro j v hv hj e
   rcases hr j e.symm with h | ⟨hle, _⟩
   ·omega
   ·omega
  exact ⟨hg.cell h1 (hne _ _ h1 (by show w.heap.size < _; omega)), hg.cell h2 (hne _ _ h2 (by show w.heap.size + 1 < _; omega)), (World.frozen?_of_block (hg.block _ (World.block_lt_of_cell? _ _ h2) (hne _ _ h2 (by show w.heap.size + 1 < _; omega)))).trans h3,
   h4.grown hg h4.size (fun k e => by rcases hr k e with h | ⟨hle, _⟩ <;> omega)⟩
 case assign =>
  intro l x W K hK
  gi_wp2
  exact hK
 case body =>
  rintro l pre x W hWz ⟨h1, h2, h3, h4⟩; have hWs := h4.size
  gi_wp2_with (refine ⟨trivial, ?_⟩; gi_at_call 63; refine (CallsIn.inRound l (callsIn_wide.2 (words_any _))).mono ?_; rintro e w1 ⟨rfl, hb⟩)
  have hb' := Lib.hid hb; have h1w := bl_cell hb h1; have h2w := bl_cell hb h2; have h3w : w1.frozen? ⟨w.heap.size + 1, 0, none⟩ = false := (hb.frozen (World.block_lt_of_cell? _ _ h2)).trans h3
  obtain ⟨f0, hf0⟩ : ∃ f0, orS among 0 (listsOf pre) = f0 := ⟨_, rfl⟩
  have hsnoc : orS among 0 (listsOf (pre ++ [x])) = orW among x.data.toList f0 (allWords.take 8) := by
   rw [← hf0, listsOf, List.map_append, List.map_cons, List.map_nil, orS_snoc]; rfl
  rw [hf0] at h2w; replace hsnoc := Lib.hid hsnoc
  have K0 := Lib.hid (show KeepsFrom W0.heap.size W w1 ∧ (∀ k ∈ [w.heap.size + 1 + 1, w.heap.size + 1 + 1 + 1, w.heap.size + 1 + 1 + 1 + 1], w1.heap[k]? = W.heap[k]?) ∧ Below w.heap.size w w1 from
   ⟨keeps_below hb, fun k hk => hb.block k (by simp at hk; omega), h4.trans (hb.mono hWs)⟩)
  have hw1 : W.heap.size ≤ w1.heap.size := hb.size; clear hb h1 h2 h3 h4 hb'
  gi_loopw [16] (fun i V => ∃ k : Nat, k ≤ 8 ∧ i = .int .i64 k ∧ W.heap.size ≤ V.heap.size ∧ V.cell? ⟨w.heap.size, 0, none⟩ = some (.int .i64 among) ∧ V.cell? ⟨w.heap.size + 1, 0, none⟩ = some (.int .i64 (orW among x.data.toList f0 (allWords.take k))) ∧ V.frozen? ⟨w.heap.size + 1, 0, none⟩ = false ∧
   (KeepsFrom W0.heap.size W V ∧ (∀ k ∈ [w.heap.size + 1 + 1, w.heap.size + 1 + 1 + 1, w.heap.size + 1 + 1 + 1 + 1], V.heap[k]? = W.heap[k]?) ∧ Below w.heap.size w V)) (fun i _ => 8 - (intOf i).toNat)
  case atStart => exact ⟨0, Nat.zero_le _, rfl, hw1, h1w, h2w, h3w, K0.out⟩
  case round =>
   obtain ⟨k, hk, rfl, hz, g1, g2, g3, gK⟩ := hrel; have GK := Lib.hid gK; clear gK K0 h1w h2w h3w
   by_cases hlt : k < 8
   ·have hix := index_words k hlt
    have hsn := orW_snoc among x.data.toList f0 k hlt; generalize flagAt k = fl at *; generalize wordAt k = wd at *; generalize orW among x.data.toList f0 (allWords.take k) = f1 at *; replace hsn := Lib.hid hsn; have q1 : (wr.alloc (.cells #[.int .i64 fl, .string ⟨wd.toArray⟩] 91)).cell? ⟨w.heap.size, 0, none⟩ = some (.int .i64 among) := cell_keep g1 _; have q2 : (wr.alloc (.cells #[.int .i64 fl, .string ⟨wd.toArray⟩] 91)).cell? ⟨w.heap.size + 1, 0, none⟩ = some (.int .i64 f1) := cell_keep g2 _; have q3 : (wr.alloc (.cells #[.int .i64 fl, .string ⟨wd.toArray⟩] 91)).frozen? ⟨w.heap.size + 1, 0, none⟩ = false := frozen_keep g2 g3 _; obtain ⟨n1, n2, n3⟩ := GK.out; have m1 : KeepsFrom W0.heap.size W (wr.alloc (.cells #[.int .i64 fl, .string ⟨wd.toArray⟩] 91)) := n1.trans ((KeepsOthers.alloc _ _).from _)
    have m2 : ∀ k ∈ [w.heap.size + 1 + 1, w.heap.size + 1 + 1 + 1, w.heap.size + 1 + 1 + 1 + 1], (wr.alloc (.cells #[.int .i64 fl, .string ⟨wd.toArray⟩] 91)).heap[k]? = W.heap[k]? := fun k hk => by
     refine (Below.heap_alloc _ _ k ?_).trans (n2 k hk); simp at hk
     omega
    have m3 : Below w.heap.size w (wr.alloc (.cells #[.int .i64 fl, .string ⟨wd.toArray⟩] 91)) := n3.alloc (by omega) _; have M := Lib.hid (And.intro m1 (And.intro m2 m3)); clear m1 m2 m3 n1 n2 n3 GK
    gi_wp2
    ·rename_i hx
     have hx : wd = x.data.toList := by simpa [Lib.toList_data] using hx
     obtain ⟨m1, m2, m3⟩ := M.out; refine ⟨⟨k + 1, by omega, by go_num, by simp; omega, ?_, ?_, ?_, m1.trans ((KeepsOthers.setCell _ _ _).from _), fun j hj => ?_, m3.setCell (p := ⟨w.heap.size + 1, 0, none⟩) (by show w.heap.size ≤ w.heap.size + 1; omega) _⟩, by simp [intOf]; omega⟩
     ·rw [World.cell?_setCell_other (h := by simp)]
      exact q1
     ·rw [hsn.out, if_pos hx]
      exact World.cell?_setCell_same' _ _ _ (by rw [q2]; rfl)
     ·rw [World.frozen?_setCell]
      exact q3
     ·refine (Below.heap_setCell _ _ _ _ ?_).trans (m2 j hj)
      simp at hj
      show j ≠ w.heap.size + 1
      omega
    ·rename_i hx
     have hx : ¬ wd = x.data.toList := by simpa [Lib.toList_data] using hx
     obtain ⟨m1, m2, m3⟩ := M.out
     exact ⟨⟨k + 1, by omega, by go_num, by simp; omega, q1, by rw [hsn.out, if_neg hx]; exact q2, q3, m1, m2, m3⟩, by simp [intOf]; omega⟩
   ·obtain rfl : k = 8 := by omega
    gi_wp2
    obtain ⟨n1, n2, n3⟩ := GK.out
    exact ⟨n1, n2, g1, by rw [hsnoc.out]; exact g2, g3, n3⟩
 case done =>
  rintro D W hD hWz ⟨h1, h2, h3, h4⟩ hK; rw [listsOf_sp] at h2; have hWs := h4.size
  have hfin : parse s.data.toList among = if (text (orS among 0 (sp s.data.toList)) among).1 = s.data.toList then (orS among 0 (sp s.data.toList), 0) else (0, 4) := rfl
  generalize orS among 0 (sp s.data.toList) = f at *; have T := text_any f among W
  obtain ⟨tx, htx⟩ : ∃ tx, (text f among).1 = tx := ⟨_, rfl⟩
  rw [htx] at T hfin; generalize (text f among).2 = te at *
  by_cases hx : tx = s.data.toList
  ·rw [if_pos hx] at hfin
   have hx1 : (tx == s.toList) = true := by simp [hx, Lib.toList_data]
   replace hfin := Lib.hid hfin; replace hx := Lib.hid hx
   gi_wp2_with (refine ⟨trivial, ?_⟩; gi_at_call 41; refine (callsIn_wide.2 T).mono ?_; clear T; rintro e w2 ⟨rfl, hb2⟩; have h2b := bl_cell hb2 h2)
   have hKb := (hb2.block D (Array.getElem?_eq_some_iff.1 hK).1).trans hK; refine ⟨by simp, .inl ⟨_, _, rfl, run_takeDeferred hKb, ?_⟩⟩; have HB := h4.trans (hb2.mono hWs); refine ⟨.tuple #[.int .i64 f, .int .i64 0], by simp [results, Tryd.f35, go_sem], by rw [hfin.out], ?_⟩
   exact HB.grown (grownBy_putObj' w2 D _) HB.size (fun k e => by cases e; omega)
  ·rw [if_neg hx] at hfin
   have hx1 : (tx == s.toList) = false := by simp [hx, Lib.toList_data]
   replace hfin := Lib.hid hfin; replace hx := Lib.hid hx
   gi_wp2_with (refine ⟨trivial, ?_⟩; gi_at_call 41; refine (callsIn_wide.2 T).mono ?_; clear T; rintro e w2 ⟨rfl, hb2⟩; have h2b := bl_cell hb2 h2)
   have hKb := (hb2.block D (Array.getElem?_eq_some_iff.1 hK).1).trans hK; refine ⟨by simp, .inl ⟨_, _, rfl, run_takeDeferred hKb, ?_⟩⟩; have HB := h4.trans (hb2.mono hWs); refine ⟨.tuple #[.int .i64 0, .int .i64 4], by simp [results, Tryd.f35, go_sem], by rw [hfin.out], ?_⟩
   exact HB.grown (grownBy_putObj' w2 D _) HB.size (fun k e => by cases e; omega)
end Go.Proofs.YtajplppeijmfpaaDoor.Fl

namespace Go.Proofs.YtajplppeijmfpaaDoor.Fl
open Go Go.RowKit
set_option maxHeartbeats 400000
theorem classText_any (f : Int) (w : World) : Calls Tryd.prog 13 #[.int .i64 f] w fun e w' => e = .returned (.tuple #[.string ⟨(text f 1585).1.toArray⟩, .int .i64 (text f 1585).2]) ∧ Below w.heap.size w w' := by
 go_enter Tryd.func13, Tryd.ntmps13; go_wp2_with (go_at_call 41; refine (text_any _ _ _).mono ?_; rintro e w1 ⟨rfl, hb⟩); go_ret2
 exact ⟨rfl, hb⟩
theorem methodText_any (f : Int) (w : World) : Calls Tryd.prog 15 #[.int .i64 f] w fun e w' => e = .returned (.tuple #[.string ⟨(text f 1055).1.toArray⟩, .int .i64 (text f 1055).2]) ∧ Below w.heap.size w w' := by
 go_enter Tryd.func15, Tryd.ntmps15; go_wp2_with (go_at_call 41; refine (text_any _ _ _).mono ?_; rintro e w1 ⟨rfl, hb⟩); go_ret2
 exact ⟨rfl, hb⟩
end Go.Proofs.YtajplppeijmfpaaDoor.Fl

namespace Go.Proofs.YtajplppeijmfpaaDoor.Fl
open Go Go.RowKit
set_option linter.unusedVariables false
set_option linter.unusedSimpArgs false
def rpOk (s : List UInt8) (a : Nat) (w : List UInt8) : Prop := a + w.length ≤ s.length ∧ (s.drop a).take w.length = w ∧ (a + w.length = s.length ∨ s[a + w.length]? = some 32)
instance (s : List UInt8) (a : Nat) (w : List UInt8) : Decidable (rpOk s a w) := by unfold rpOk; infer_instance
end Go.Proofs.YtajplppeijmfpaaDoor.Fl

namespace Go.Proofs.YtajplppeijmfpaaDoor.Fl
open Go Go.RowKit
set_option maxHeartbeats 1000000
theorem text33 : text 33 1585 = ([112, 117, 98, 108, 105, 99, 32, 115, 117, 112, 101, 114], 0) := by decide +kernel
theorem awake_any (w : World) : Calls Tryd.prog 8 #[] w fun e w' => e = .returned (.bool true) ∧ Below w.heap.size w w' := by
 have C := classText_any 33 w; rw [text33] at C; replace C := Lib.hid C; go_enter Tryd.func8, Tryd.ntmps8; go_wp2_with (go_at_call 13; refine C.out.mono ?_; rintro e w1 ⟨rfl, hb⟩); go_ret
 exact ⟨rfl, hb⟩
end Go.Proofs.YtajplppeijmfpaaDoor.Fl

namespace Go.Proofs.YtajplppeijmfpaaDoor.Fl
open Go Go.RowKit
set_option linter.unusedVariables false
set_option linter.unusedSimpArgs false
set_option maxHeartbeats 1000000
theorem parseClass_any (s : ByteArray) (hsz : s.size ≤ 9223372036854775807) (w : World) : Calls Tryd.prog 9 #[.string s] w fun e w' => e = .returned (.tuple #[.int .i64 (parse s.data.toList 1585).1, .int .i64 (parse s.data.toList 1585).2]) ∧ Below w.heap.size w w' := by
 go_enter Tryd.func9, Tryd.ntmps9; go_wp2_with (go_at_call 35; refine (parse_any _ hsz _ _).mono ?_; rintro e w1 ⟨rfl, hb⟩); go_ret2
 exact ⟨rfl, hb⟩
theorem parseMethod_any (s : ByteArray) (hsz : s.size ≤ 9223372036854775807) (w : World) : Calls Tryd.prog 11 #[.string s] w fun e w' => e = .returned (.tuple #[.int .i64 (parse s.data.toList 1055).1, .int .i64 (parse s.data.toList 1055).2]) ∧ Below w.heap.size w w' := by
 go_enter Tryd.func11, Tryd.ntmps11; go_wp2_with (go_at_call 35; refine (parse_any _ hsz _ _).mono ?_; rintro e w1 ⟨rfl, hb⟩); go_ret2
 exact ⟨rfl, hb⟩
theorem text_two (f among : Int) : (text f among).2 = 0 ∨ (text f among).2 = 1 := by
 unfold text
 split <;> simp
theorem text_size (f among : Int) : (⟨(text f among).1.toArray⟩ : ByteArray).size ≤ 9223372036854775807 := by
 show (text f among).1.toArray.size ≤ _
 rw [List.size_toArray]; unfold text
 split
 ·simp
 ·have h1 := joinB_len (wordsOf f allWords) (by
   intro a ha; simp only [wordsOf, List.mem_map, List.mem_filter] at ha; obtain ⟨p, ⟨hp, _⟩, rfl⟩ := ha
   have : ∀ q ∈ allWords, q.2.length ≤ 10 := by decide
   exact this p hp)
  have h2 : (wordsOf f allWords).length ≤ 8 := by
   unfold wordsOf; rw [List.length_map]
   exact Nat.le_trans (List.length_filter_le _ _) (Nat.le_refl _)
  show (joinB (wordsOf f allWords)).length ≤ _
  omega
theorem classText_eq (f : Int) (t : List UInt8) (e : Int) (h : text f 1585 = (t, e)) (w : World) : Calls Tryd.prog 13 #[.int .i64 f] w fun x w' => x = .returned (.tuple #[.string ⟨t.toArray⟩, .int .i64 e]) ∧ Below w.heap.size w w' := by
 have := classText_any f w; rw [h] at this
 exact this
theorem methodText_eq (f : Int) (t : List UInt8) (e : Int) (h : text f 1055 = (t, e)) (w : World) : Calls Tryd.prog 15 #[.int .i64 f] w fun x w' => x = .returned (.tuple #[.string ⟨t.toArray⟩, .int .i64 e]) ∧ Below w.heap.size w w' := by
 have := methodText_any f w; rw [h] at this
 exact this
theorem parseClass_at (s : ByteArray) (hsz : s.size ≤ 9223372036854775807) (g h : Int) (hp : parse s.data.toList 1585 = (g, h)) (w : World) : Calls Tryd.prog 9 #[.string s] w fun x w' => x = .returned (.tuple #[.int .i64 g, .int .i64 h]) ∧ Below w.heap.size w w' := by
 have := parseClass_any s hsz w; rw [hp] at this
 exact this
theorem parseMethod_at (s : ByteArray) (hsz : s.size ≤ 9223372036854775807) (g h : Int) (hp : parse s.data.toList 1055 = (g, h)) (w : World) : Calls Tryd.prog 11 #[.string s] w fun x w' => x = .returned (.tuple #[.int .i64 g, .int .i64 h]) ∧ Below w.heap.size w w' := by
 have := parseMethod_any s hsz w; rw [hp] at this
 exact this
set_option maxHeartbeats 4000000 in
theorem flagsBack_any (f : Int) (hf : inR f) (b : Bool) (nm s : ByteArray) (hsz : s.size ≤ 9223372036854775807) (w : World) :
  Calls Tryd.prog 4 #[.int .i64 f, .bool b, .string nm, .string s] w fun e w' => e = .returned (.bool true) ∧ Below w.heap.size w w' := by
 have K1 := Lib.hid (checkClass_any f); have K2 := Lib.hid (checkMethod_any f b nm); have hk1 := classHas f; have hk2 := methodHas f b (nm.toList == [60, 105, 110, 105, 116, 62]); generalize checkMethod f b (nm.toList == [60, 105, 110, 105, 116, 62]) = cm at *; generalize checkClass f = cc at *
 obtain ⟨t1, e1, x1⟩ : ∃ t e, text f 1585 = (t, e) := ⟨_, _, rfl⟩
 obtain ⟨t2, e2, x2⟩ : ∃ t e, text f 1055 = (t, e) := ⟨_, _, rfl⟩
 have C1 := Lib.hid (classText_eq f t1 e1 x1); have C2 := Lib.hid (methodText_eq f t2 e2 x2)
 have B1 : e1 = 0 → ∀ w, Calls Tryd.prog 9 #[.string ⟨t1.toArray⟩] w fun x w' => x = .returned (.tuple #[.int .i64 f, .int .i64 0]) ∧ Below w.heap.size w w' := fun h => by
  have k := classBack f hf (by rw [x1]; exact h); have z := text_size f 1585; rw [x1] at k z
  exact parseClass_at ⟨t1.toArray⟩ z f 0 k
 have B2 : e2 = 0 → ∀ w, Calls Tryd.prog 11 #[.string ⟨t2.toArray⟩] w fun x w' => x = .returned (.tuple #[.int .i64 f, .int .i64 0]) ∧ Below w.heap.size w w' := fun h => by
  have k := methodBack f hf (by rw [x2]; exact h); have z := text_size f 1055; rw [x2] at k z
  exact parseMethod_at ⟨t2.toArray⟩ z f 0 k
 have D1 : ∃ g h, (∀ w, Calls Tryd.prog 9 #[.string s] w fun x w' => x = .returned (.tuple #[.int .i64 g, .int .i64 h]) ∧ Below w.heap.size w w') ∧
   ((h = 0 ∧ ∀ w, Calls Tryd.prog 13 #[.int .i64 g] w fun x w' => x = .returned (.tuple #[.string s, .int .i64 0]) ∧ Below w.heap.size w w') ∨ (g = 0 ∧ h = 4)) := by
  refine ⟨_, _, parseClass_any s hsz, ?_⟩
  rcases classAgain s.data.toList with ⟨h, k⟩ | h
  ·exact .inl ⟨h, classText_eq _ _ _ k⟩
  ·rw [h]; exact .inr ⟨rfl, rfl⟩
 have D2 : ∃ g h, (∀ w, Calls Tryd.prog 11 #[.string s] w fun x w' => x = .returned (.tuple #[.int .i64 g, .int .i64 h]) ∧ Below w.heap.size w w') ∧
   ((h = 0 ∧ ∀ w, Calls Tryd.prog 15 #[.int .i64 g] w fun x w' => x = .returned (.tuple #[.string s, .int .i64 0]) ∧ Below w.heap.size w w') ∨ (g = 0 ∧ h = 4)) := by
  refine ⟨_, _, parseMethod_any s hsz, ?_⟩
  rcases methodAgain s.data.toList with ⟨h, k⟩ | h
  ·exact .inl ⟨h, methodText_eq _ _ _ k⟩
  ·rw [h]; exact .inr ⟨rfl, rfl⟩
 have y1 := text_two f 1585; have y2 := text_two f 1055; rw [x1] at y1 hk1; rw [x2] at y2 hk2; clear x1 x2; obtain ⟨g1, h1, P1, r1⟩ := D1; obtain ⟨g2, h2, P2, r2⟩ := D2; replace P1 := Lib.hid P1; replace P2 := Lib.hid P2; simp only at y1 y2 hk1 hk2; go_enter Tryd.func4, Tryd.ntmps4
 rcases y1 with rfl | rfl <;> rcases y2 with rfl | rfl <;> rcases r1 with ⟨rfl, T1⟩ | ⟨rfl, rfl⟩ <;> rcases r2 with ⟨rfl, T2⟩ | ⟨rfl, rfl⟩
 all_goals
  first | replace B1 := Lib.hid (B1 rfl) | clear B1
  first | replace B2 := Lib.hid (B2 rfl) | clear B2
  try replace T1 := Lib.hid T1
  try replace T2 := Lib.hid T2
  try replace hk1 : ¬ cc = 0 := fun h => absurd (hk1 h) (by decide)
  try replace hk2 : ¬ cm = 0 := fun h => absurd (hk2 h) (by decide)
 all_goals
  go_wp2_with (first
   | (go_at_call 8; refine (awake_any _).mono ?_; rintro e w1 ⟨rfl, hb1⟩)
   | (go_at_call 13; refine (C1.out _).mono ?_; clear C1; rintro e w2 ⟨rfl, hb2⟩)
   | (go_at_call 9; refine (B1.out _).mono ?_; clear B1; rintro e w3 ⟨rfl, hb3⟩)
   | (go_at_call 14; refine (K1.out _).mono ?_; rintro e w4 ⟨rfl, rfl⟩)
   | (go_at_call 15; refine (C2.out _).mono ?_; clear C2; rintro e w5 ⟨rfl, hb5⟩)
   | (go_at_call 11; refine (B2.out _).mono ?_; clear B2; rintro e w6 ⟨rfl, hb6⟩)
   | (go_at_call 16; refine (K2.out _).mono ?_; rintro e w7 ⟨rfl, rfl⟩)
   | (go_at_call 9; refine (P1.out _).mono ?_; rintro e w8 ⟨rfl, hb8⟩)
   | (go_at_call 13; refine (T1.out _).mono ?_; rintro e w9 ⟨rfl, hb9⟩)
   | (go_at_call 11; refine (P2.out _).mono ?_; rintro e w10 ⟨rfl, hb10⟩)
   | (go_at_call 15; refine (T2.out _).mono ?_; rintro e w11 ⟨rfl, hb11⟩))
 all_goals
  go_ret; refine ⟨by first | rfl | simp, ?_⟩
  repeat first
   | assumption
   | refine bl_trans ?_ (by assumption)
end Go.Proofs.YtajplppeijmfpaaDoor.Fl
