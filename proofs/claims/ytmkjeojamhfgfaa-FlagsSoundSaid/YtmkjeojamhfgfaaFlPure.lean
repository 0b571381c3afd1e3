/- Plain facts on the flags of classes and methods: the Go functions of packages flags and arbiterref03 as Lean functions on numbers and lists of bytes, and that they agree. No program in sight. -/
import Derived.Laws.BitsLemmas
import Derived.RowKit
namespace Go.Proofs.Ytmkjeojamhfgfaa.Fl
open Go Go.RowKit

/-- f & c, f &^ c on int. -/
def band (f c : Int) : Int := bits .and .i64 f c
def bandn (f c : Int) : Int := bits .andNot .i64 f c
def inR (f : Int) : Prop := -9223372036854775808 ≤ f ∧ f ≤ 9223372036854775807

theorem wrap_toNat_zero (x : BitVec 64) (h : IntKind.i64.wrap (x.toNat : Int) = 0) : x = 0#64 := by
  rw [IntKind.wrap_i64] at h
  have hx := x.isLt
  apply BitVec.eq_of_toNat_eq
  simp only [BitVec.toNat_ofNat]
  omega

theorem bandn_zero (f : Int) (hf : inR f) (c : Nat) (hc : c < 2048) (h : bandn f c = 0) : 0 ≤ f ∧ f ≤ c := by
  have h1 := wrap_toNat_zero (BitVec.ofInt 64 f &&& ~~~ BitVec.ofInt 64 (c : Int)) h
  have h2 : BitVec.ofInt 64 f = BitVec.ofInt 64 f &&& BitVec.ofInt 64 (c : Int) := by
    apply BitVec.eq_of_getLsbD_eq
    intro i hi
    have := congrArg (fun b => b.getLsbD i) h1
    simp only [BitVec.getLsbD_and, BitVec.getLsbD_not, BitVec.getLsbD_zero, hi, decide_true, Bool.true_and] at this ⊢
    revert this
    cases (BitVec.ofInt 64 f).getLsbD i <;> cases (BitVec.ofInt 64 (c : Int)).getLsbD i <;> simp
  have h3 : (BitVec.ofInt 64 f).toNat ≤ c := by
    rw [h2, BitVec.toNat_and]
    refine Nat.le_trans Nat.and_le_right ?_
    rw [BitVec.ofInt_natCast, BitVec.toNat_ofNat]
    exact Nat.mod_le _ _
  have h4 := congrArg Int.toNat (BitVec.toInt_ofInt (n := 64) (i := f))
  rw [BitVec.toNat_ofInt] at h3
  unfold inR at hf
  omega

/-- flags.CheckClass -/
def checkClass (f : Int) : Int :=
  if bandn f 1585 ≠ 0 ∨ band f 1040 = 1040 then 1
  else if band f 512 = 512 ∧ (band f 1024 ≠ 1024 ∨ band f 48 ≠ 0) then 1 else 0
/-- flags.CheckMethod; i: is the name <init>? -/
def checkMethod (f : Int) (b i : Bool) : Int :=
  if bandn f 1055 ≠ 0 ∨ band (band f 7) (wrap64 (band f 7 - 1)) ≠ 0 then 1
  else if band f 1024 = 1024 ∧ band f 26 ≠ 0 then 1
  else if b = true ∧ (band (band f 7) 3 = 0 ∨ band f 16 ≠ 0 ∨ i = true) then 1
  else if i = true ∧ band f 1048 ≠ 0 then 1 else 0
/-- flags.Open -/
def opens (f : Int) : Int := if band f 1 ≠ 0 then 1 else if band f 4 ≠ 0 then 4 else if band f 2 ≠ 0 then 2 else 0
/-- arbiterref03.known -/
def known (f : Int) (l : List Int) : Int := l.foldl (fun n x => if band f x = 0 then n else n + x) 0
def classFlags : List Int := [1, 16, 32, 512, 1024]
def methodFlags : List Int := [1, 2, 4, 8, 16, 1024]
def rcheckClass (f : Int) : Int :=
  if known f classFlags ≠ f then 1
  else if band f 512 ≠ 0 ∧ (band f 1024 = 0 ∨ band f 16 ≠ 0 ∨ band f 32 ≠ 0) then 1
  else if band f 16 ≠ 0 ∧ band f 1024 ≠ 0 then 1 else 0
def one (f c : Int) : Int := if band f c = 0 then 0 else 1
def rcheckMethod (f : Int) (b i : Bool) : Int :=
  if known f methodFlags ≠ f then 1
  else if one f 1 + one f 2 + one f 4 > 1 then 1
  else if band f 1024 ≠ 0 ∧ (band f 2 ≠ 0 ∨ band f 8 ≠ 0 ∨ band f 16 ≠ 0) then 1
  else if b = true ∧ (band f 4 ≠ 0 ∨ band f 16 ≠ 0 ∨ one f 1 + one f 2 + one f 4 = 0 ∨ i = true) then 1
  else if i = true ∧ (band f 8 ≠ 0 ∨ band f 16 ≠ 0 ∨ band f 1024 ≠ 0) then 1 else 0

theorem known_range (f : Int) (l : List Int) (hl : ∀ x ∈ l, 0 ≤ x) : 0 ≤ known f l ∧ known f l ≤ l.foldl (· + ·) 0 := by
  have key : ∀ (l : List Int) (a b : Int), (∀ x ∈ l, 0 ≤ x) → 0 ≤ a → a ≤ b →
      0 ≤ l.foldl (fun n x => if band f x = 0 then n else n + x) a ∧ l.foldl (fun n x => if band f x = 0 then n else n + x) a ≤ l.foldl (· + ·) b := by
    intro l
    induction l with
    | nil => intro a b _ h0 h1; exact ⟨h0, h1⟩
    | cons x l ih =>
      intro a b hx h0 h1
      have hx0 := hx x (by simp)
      simp only [List.foldl_cons]
      refine ih _ _ (fun y hy => hx y (by simp [hy])) ?_ ?_ <;> split <;> omega
  exact key l 0 0 hl (Int.le_refl _) (Int.le_refl _)

def tab (p : Int → Bool) : Bool := (List.range 2048).all fun n => p (n : Int)
theorem of_tab {p : Int → Bool} (h : tab p = true) (f : Int) (h0 : 0 ≤ f) (h1 : f < 2048) : p f = true := by
  obtain ⟨n, rfl⟩ := Int.eq_ofNat_of_zero_le h0
  exact List.all_eq_true.1 h n (by simp; omega)

theorem class_tab : tab (fun f => decide (checkClass f = rcheckClass f)) = true := by decide +kernel
theorem method_tab : tab (fun f => [true, false].all fun b => [true, false].all fun i => decide (checkMethod f b i = rcheckMethod f b i)) = true := by decide +kernel
theorem known_tab : tab (fun f => decide ((known f classFlags = f ↔ bandn f 1585 = 0) ∧ (known f methodFlags = f ↔ bandn f 1055 = 0))) = true := by decide +kernel

theorem known_class (f : Int) (hf : inR f) : known f classFlags = f ↔ bandn f 1585 = 0 := by
  have hr := known_range f classFlags (by decide)
  by_cases hin : 0 ≤ f ∧ f < 2048
  · exact (of_decide_eq_true (of_tab known_tab f hin.1 hin.2)).1
  · constructor
    · intro h; rw [h] at hr; exact absurd ⟨hr.1, Int.lt_of_le_of_lt hr.2 (by decide)⟩ hin
    · intro h; have := bandn_zero f hf 1585 (by decide) h; omega
theorem known_method (f : Int) (hf : inR f) : known f methodFlags = f ↔ bandn f 1055 = 0 := by
  have hr := known_range f methodFlags (by decide)
  by_cases hin : 0 ≤ f ∧ f < 2048
  · exact (of_decide_eq_true (of_tab known_tab f hin.1 hin.2)).2
  · constructor
    · intro h; rw [h] at hr; exact absurd ⟨hr.1, Int.lt_of_le_of_lt hr.2 (by decide)⟩ hin
    · intro h; have := bandn_zero f hf 1055 (by decide) h; omega

theorem checkClass_eq (f : Int) (hf : inR f) : checkClass f = rcheckClass f := by
  by_cases hin : 0 ≤ f ∧ f < 2048
  · exact of_decide_eq_true (of_tab class_tab f hin.1 hin.2)
  · have h1 : bandn f 1585 ≠ 0 := fun h => by have := bandn_zero f hf 1585 (by decide) h; omega
    have h2 : known f classFlags ≠ f := fun h => h1 ((known_class f hf).1 h)
    simp [checkClass, rcheckClass, h1, h2]
theorem checkMethod_eq (f : Int) (hf : inR f) (b i : Bool) : checkMethod f b i = rcheckMethod f b i := by
  by_cases hin : 0 ≤ f ∧ f < 2048
  · have := of_tab method_tab f hin.1 hin.2
    simp only [List.all_cons, List.all_nil, Bool.and_true, Bool.and_eq_true, decide_eq_true_eq] at this
    obtain ⟨⟨h1, h2⟩, h3, h4⟩ := this
    cases b <;> cases i <;> assumption
  · have h1 : bandn f 1055 ≠ 0 := fun h => by have := bandn_zero f hf 1055 (by decide) h; omega
    have h2 : known f methodFlags ≠ f := fun h => h1 ((known_method f hf).1 h)
    simp [checkMethod, rcheckMethod, h1, h2]

/-- A word and its flag. -/
def wPublic : List UInt8 := [112, 117, 98, 108, 105, 99]
def wPrivate : List UInt8 := [112, 114, 105, 118, 97, 116, 101]
def wProtected : List UInt8 := [112, 114, 111, 116, 101, 99, 116, 101, 100]
def wStatic : List UInt8 := [115, 116, 97, 116, 105, 99]
def wFinal : List UInt8 := [102, 105, 110, 97, 108]
def wSuper : List UInt8 := [115, 117, 112, 101, 114]
def wInterface : List UInt8 := [105, 110, 116, 101, 114, 102, 97, 99, 101]
def wAbstract : List UInt8 := [97, 98, 115, 116, 114, 97, 99, 116]
def allWords : List (Int × List UInt8) := [(1, wPublic), (2, wPrivate), (4, wProtected), (8, wStatic), (16, wFinal), (32, wSuper), (512, wInterface), (1024, wAbstract)]
/-- The words of f among some pairs. -/
def wordsOf (f : Int) (l : List (Int × List UInt8)) : List (List UInt8) := (l.filter fun p => band f p.1 != 0).map (·.2)
def joinB : List (List UInt8) → List UInt8
  | [] => []
  | [a] => a
  | a :: b :: r => a ++ 32 :: joinB (b :: r)
/-- flags.text -/
def text (f among : Int) : List UInt8 × Int := if bandn f among ≠ 0 then ([], 1) else (joinB (wordsOf f allWords), 0)
def classWords : List (List UInt8) := [wPublic, wFinal, wSuper, wInterface, wAbstract]
def methodWords : List (List UInt8) := [wPublic, wPrivate, wProtected, wStatic, wFinal, wAbstract]
/-- arbiterref03.text, from its loop on -/
def rtextGo (f : Int) (s : List UInt8) : List (Int × List UInt8) → List UInt8
  | [] => s
  | (x, t) :: r => rtextGo f (if band f x = 0 then s else (if s = [] then s else s ++ [32]) ++ t) r
def rtext (f : Int) (l : List (Int × List UInt8)) : List UInt8 × Int := if known f (l.map (·.1)) ≠ f then ([], 1) else (rtextGo f [] l, 0)

theorem text_tab : tab (fun f => decide ((bandn f 1585 = 0 → joinB (wordsOf f allWords) = rtextGo f [] (classFlags.zip classWords)) ∧ (bandn f 1055 = 0 → joinB (wordsOf f allWords) = rtextGo f [] (methodFlags.zip methodWords)))) = true := by decide +kernel
theorem text_class (f : Int) (hf : inR f) : text f 1585 = rtext f (classFlags.zip classWords) := by
  have hk : known f ((classFlags.zip classWords).map (·.1)) = f ↔ bandn f 1585 = 0 := known_class f hf
  by_cases h : bandn f 1585 = 0
  · have hr := bandn_zero f hf 1585 (by decide) h
    have := (of_decide_eq_true (of_tab text_tab f hr.1 (by omega))).1 h
    simp [text, rtext, h, hk.2 h, this]
  · have hk' : ¬ known f ((classFlags.zip classWords).map (·.1)) = f := fun e => h (hk.1 e)
    simp only [text, rtext, h, hk', ne_eq, not_false_eq_true, if_true]
theorem text_method (f : Int) (hf : inR f) : text f 1055 = rtext f (methodFlags.zip methodWords) := by
  have hk : known f ((methodFlags.zip methodWords).map (·.1)) = f ↔ bandn f 1055 = 0 := known_method f hf
  by_cases h : bandn f 1055 = 0
  · have hr := bandn_zero f hf 1055 (by decide) h
    have := (of_decide_eq_true (of_tab text_tab f hr.1 (by omega))).2 h
    simp [text, rtext, h, hk.2 h, this]
  · have hk' : ¬ known f ((methodFlags.zip methodWords).map (·.1)) = f := fun e => h (hk.1 e)
    simp only [text, rtext, h, hk', ne_eq, not_false_eq_true, if_true]
end Go.Proofs.Ytmkjeojamhfgfaa.Fl
