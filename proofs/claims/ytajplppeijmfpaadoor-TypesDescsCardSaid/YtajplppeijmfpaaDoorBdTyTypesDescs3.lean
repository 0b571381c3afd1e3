/- Lemmas and contracts for the statement of TyTypesDescs: joined by program out of this session's texts. -/
import Derived.Test.YtajplppeijmfpaaDoorBdTyTypesDescs2
import Derived.Test.YtajplppeijmfpaaDoorProg
import Derived.Below
import Derived.Deep.Draws
import Derived.Deep.AppendLies
import Derived.Maps.AppendAt
import Derived.OwnWalk
import Derived.Laws.BytesArg
import Derived.Laws.MakeOwn
import Derived.Laws.OwnMore
import Derived.Deep.OwnRows
import Derived.Tactics
import Derived.Lib.ConvBytes
import Derived.Laws.Slices
import Derived.WalkKit
import Derived.KernelRfl
import Derived.RowKit3
import Derived.Deep.LoopGhost
import Derived.Deep.QuietTactic
import Derived.BigQuiet
import Derived.WideLaws
import Derived.Deep.DeepCutAuto
import Derived.Deep.CutBlock
import Derived.Deep.RegionHeld3
import Derived.Laws.Rows
import Derived.Lib.AppendStr
import Derived.ArgAppend
import Derived.Laws.IdiomCopy
import Derived.OrdersHeld
import Derived.Laws.BitsLemmas
import Derived.RowKit
import Derived.Deep.Onto
import Derived.Deep.Slices
import Derived.WideShapes
namespace Go.Proofs.YtajplppeijmfpaaDoor.Td
open Go Go.RowKit Go.Proofs.YtajplppeijmfpaaDoor.Nm Go.Proofs.YtajplppeijmfpaaDoor.Ty Go.Proofs.YtajplppeijmfpaaDoor.Pt
set_option linter.unusedVariables false
set_option linter.unusedSimpArgs false
theorem opens_rep (d : Nat) (l : List UInt8) (h : ∀ r, l ≠ 91 :: r) : opens (List.replicate d 91 ++ l) = d ∧ past (List.replicate d 91 ++ l) = l := by
 induction d with
 | zero => have := past_self l h; exact ⟨this.2, this.1⟩
 | succ d ih => rw [List.replicate_succ, List.cons_append, opens, past, if_pos rfl, if_pos rfl]; exact ⟨by rw [ih.1], ih.2⟩
theorem valid_not (nm : List UInt8) (hv : validB (bs nm) = true) (x : UInt8) (hx : x ∈ nm) : x ≠ 59 ∧ x ≠ 91 := by
 have h := valid_bytes (bs nm) hv x (by rw [mk_toList]; exact hx)
 constructor
 ·rintro rfl
  rcases h with h | h
  ·cases h
  ·revert h; decide
 ·rintro rfl
  rcases h with h | h
  ·cases h
  ·revert h; decide
theorem chk_name (d : Int) (nm : List UInt8) (h : chk d nm = 0) : nm = [] ∨ validB (bs nm) = true := by
 unfold chk at h
 split at h
 ·cases h
 ·split at h
  ·cases h
  ·rename_i h1 h2
   by_cases hn : nm = []
   ·exact .inl hn
   ·right
    cases hv : validB (bs nm) with
    | true => rfl
    | false => exact absurd ⟨hn, hv⟩ h2
theorem wr_pos (d : Nat) (nm : List UInt8) : 1 ≤ (wr d nm).length := by
 unfold wr base
 split <;> simp <;> omega
theorem ba_ext {a b : ByteArray} (h : a.data.toList = b.data.toList) : a = b := by
 rw [← mk_data a, ← mk_data b, h]
theorem toList_data (a : ByteArray) : a.toList = a.data.toList := ByteArray.toList_eq a
theorem wrap_small {i : Int} (h0 : -9223372036854775808 ≤ i) (h : i ≤ 9223372036854775807) : wrap64 i = i := by
 unfold wrap64
 omega
theorem bs_app (a b : List UInt8) : bs a ++ bs b = bs (a ++ b) := by
 apply ba_ext
 simp [bs]
theorem strOf_rep (d : Nat) : strOfNums (List.replicate d 91) = bs (List.replicate d 91) := by
 simp [strOfNums, bs]
 try rfl
theorem setRep (i d : Nat) (h : i < d) : (List.replicate i (91 : Int) ++ List.replicate (d - i) 0).set i 91 = List.replicate (i + 1) 91 ++ List.replicate (d - (i + 1)) 0 := by
 obtain ⟨m, rfl⟩ : ∃ m, d = i + 1 + m := ⟨d - (i + 1), by omega⟩
 rw [show i + 1 + m - i = m + 1 from by omega, show i + 1 + m - (i + 1) = m from by omega, List.replicate_succ, List.set_append_right _ _ (by simp), List.length_replicate, Nat.sub_self, List.set_cons_zero, List.replicate_succ' (n := i), List.append_assoc]
 rfl
theorem written_l0 (nm : ByteArray) (hn : nm.size ≤ 60) (d : Nat) (hd : d ≤ 255) (m : Nat) : ∀ (i k : Nat), i ≤ d → d - i = m → m < k →
  arbiterref02_written.l0 k (List.replicate i 91 ++ List.replicate (d - i) 0) i d nm = some (bs (wr d nm.data.toList)) := by
 induction m with
 | zero =>
  intro i k hi hm hk
  obtain ⟨k, rfl⟩ : ∃ j, k = j + 1 := ⟨k - 1, by omega⟩
  obtain rfl : i = d := by omega
  have hz : (strOfNums (List.replicate i 91)).size = i := by rw [strOf_rep, mk_size, List.length_replicate]
  simp only [arbiterref02_written.l0, Nat.sub_self, List.replicate_zero, List.append_nil]; rw [if_neg (by omega)]
  by_cases h : nm.toList = []
  ·rw [if_pos h, if_pos (by omega)]
   rw [toList_data] at h
   congr 1
   apply ba_ext
   rw [strOf_rep]; simp [wr, base, h, mk_toList, bs]
  ·rw [if_neg h, if_pos (by omega), if_pos (by rw [ByteArray.size_append, hz]; show i + 1 + _ ≤ _; omega), if_pos (by rw [ByteArray.size_append, ByteArray.size_append, hz]; show i + 1 + _ + 1 ≤ _; omega)]
   rw [toList_data] at h
   congr 1
   apply ba_ext
   rw [strOf_rep]; simp [wr, base, h, mk_toList, bs]
 | succ m ih =>
  intro i k hi hm hk
  obtain ⟨k, rfl⟩ : ∃ j, k = j + 1 := ⟨k - 1, by omega⟩
  simp only [arbiterref02_written.l0]; rw [if_pos (by omega), if_pos (by omega), if_pos (by rw [List.length_append, List.length_replicate, List.length_replicate]; omega)]; rw [wrap_small (by omega) (by omega), Int.toNat_natCast, setRep i d (by omega)]
  exact ih (i + 1) k (by omega) (by omega) (by omega)
theorem written_f (d : Int) (h0 : 0 ≤ d) (h1 : d ≤ 255) (nm : ByteArray) (hn : nm.size ≤ 60) (k : Nat) (hk : 255 < k) : arbiterref02_written.f k d nm = some (bs (wr d.toNat nm.data.toList)) := by
 obtain ⟨n, rfl⟩ : ∃ n : Nat, d = n := ⟨d.toNat, by omega⟩
 unfold arbiterref02_written.f; rw [if_pos h0, Int.toNat_natCast, if_pos (by omega)]
 exact written_l0 nm hn n (by omega) n 0 k (by omega) (by omega) (by omega)
theorem written_c (d : Int) (nm : ByteArray) (h : chk d nm.data.toList = 0) (k : Nat) (hk : 255 < k) : arbiterref02_written.f k d nm = some (bs (wr d.toNat nm.data.toList)) := by
 obtain ⟨h0, h1, h2⟩ := chk_bounds h; rw [len_data] at h2
 exact written_f d h0 h1 nm h2 k hk
theorem l1_f (l : List S41) (b : Bool) (d : Int) (nm : ByteArray) (hb : descBad l = false) (hc : chk d nm.data.toList = 0) (hl : l.length ≤ 20) (m : Nat) : ∀ (i k : Nat), i ≤ l.length → l.length - i = m → m + 300 < k →
  arbiterref02_DescText.l1 k (bs (40 :: descCat (l.take i))) i l b d nm = some (tup2 (if 2000 < (descBody l b d nm.data.toList).length then ([], 5) else (descBody l b d nm.data.toList, 0))) := by
 have h41 : (⟨#[41]⟩ : ByteArray) = bs [41] := rfl; have h86 : (⟨#[86]⟩ : ByteArray) = bs [86] := rfl; have hcl := descCat_len l hb; have hwl := wr_len hc
 induction m with
 | zero =>
  intro i k hi hm hk
  obtain ⟨k, rfl⟩ : ∃ j, k = j + 1 := ⟨k - 1, by omega⟩
  obtain rfl : i = l.length := by omega
  simp only [arbiterref02_DescText.l1, List.take_length]; rw [if_neg (by omega), mk_size, if_pos (by simp; omega), h41, h86, bs_app, bs_app, mk_size, mk_size]
  cases b with
  | true =>
   have e : (40 :: descCat l) ++ [41] ++ [86] = descBody l true d nm.data.toList := by simp [descBody]
   rw [if_pos rfl, if_pos (by simp; omega), e]
   by_cases h : 2000 < (descBody l true d nm.data.toList).length
   ·rw [if_pos h, if_pos (by omega)]; rfl
   ·rw [if_neg h, if_neg (by omega)]; rfl
  | false =>
   have e : (40 :: descCat l) ++ [41] ++ wr d.toNat nm.data.toList = descBody l false d nm.data.toList := by simp [descBody]
   rw [if_neg (by decide), written_c d nm hc k (by omega), Option.bind_some, mk_size, bs_app, mk_size, if_pos (by simp; omega), e]
   by_cases h : 2000 < (descBody l false d nm.data.toList).length
   ·rw [if_pos h, if_pos (by omega)]; rfl
   ·rw [if_neg h, if_neg (by omega)]; rfl
 | succ m ih =>
  intro i k hi hm hk
  obtain ⟨k, rfl⟩ : ∃ j, k = j + 1 := ⟨k - 1, by omega⟩
  have hlt : i < l.length := by omega
  have hc1 := bad_at l i hlt hb; have hct := cat_take l i hlt; have hp := descCat_len (l.take i) (bad_part hb i); rw [List.length_take] at hp; have hw1 := wr_len hc1; simp only [arbiterref02_DescText.l1]; rw [if_pos (by omega), if_pos (by omega), written_c _ _ hc1 k (by omega), Option.bind_some, mk_size, mk_size, if_pos (by rw [List.length_cons]; omega), bs_app, List.cons_append, ← hct, wrap_small (by omega) (by omega)]
  exact ih (i + 1) k (by omega) (by omega) (by omega)
theorem j1_f (l : List S41) (b : Bool) (d : Int) (nm : ByteArray) (hb : descBad l = false) (x : Bool) (hx : x = false → chk d nm.data.toList = 0) (k : Nat) (hk : l.length + 301 < k) :
  arbiterref02_DescText.j1 k x l b d nm = some (tup2 (if x = true then ([], 1) else if 20 < l.length then ([], 5) else if 2000 < (descBody l b d nm.data.toList).length then ([], 5) else (descBody l b d nm.data.toList, 0))) := by
 obtain ⟨k, rfl⟩ : ∃ j, k = j + 1 := ⟨k - 1, by omega⟩
 simp only [arbiterref02_DescText.j1]
 cases x with
 | true => rfl
 | false =>
  simp only [if_neg (show ¬ (false = true) by decide)]
  by_cases h : 20 < l.length
  ·rw [if_pos h, if_pos (by omega)]; rfl
  ·rw [if_neg h, if_neg (by omega)]
   exact l1_f l b d nm hb (hx rfl) (by omega) l.length 0 k (by omega) (by omega) (by omega)
theorem l0_f (l : List S41) (b : Bool) (d : Int) (nm : ByteArray) (hl : l.length ≤ 4611686018427387904) (m : Nat) : ∀ (i k : Nat), i ≤ l.length → l.length - i = m → m + l.length + 302 < k → descBad (l.take i) = false →
  arbiterref02_DescText.l0 k i l b d nm = some (tup2 (descT l b d nm.data.toList)) := by
 induction m with
 | zero =>
  intro i k hi hm hk hbt
  obtain ⟨k, rfl⟩ : ∃ j, k = j + 1 := ⟨k - 1, by omega⟩
  obtain rfl : i = l.length := by omega
  rw [List.take_length] at hbt; simp only [arbiterref02_DescText.l0, arbiterref02_Check.f, Option.bind_some]; rw [if_neg (by omega), descT, if_neg (show ¬ (descBad l = true) by rw [hbt]; decide)]
  by_cases hc : chk d nm.data.toList = 0
  ·rw [if_pos hc]
   cases b with
   | true =>
    rw [if_pos rfl]
    by_cases hd : d = 0
    ·rw [if_pos hd]
     by_cases hn : nm.data.toList = []
     ·have hx : (nm.toList != ([] : List UInt8)) = false := by rw [toList_data, hn]; rfl
      rw [hx, j1_f l true d nm hbt false (fun _ => hc) k (by omega), if_neg (show ¬ (false = true) by decide), if_neg (show ¬ (chk d nm.data.toList ≠ 0 ∨ (true = true ∧ ¬ (d = 0 ∧ nm.data.toList = []))) from fun h => h.elim (fun h => h hc) (fun h => h.2 ⟨hd, hn⟩))]
     ·have hx : (nm.toList != ([] : List UInt8)) = true := by rw [toList_data]; simpa using hn
      rw [hx, j1_f l true d nm hbt true (fun h => by cases h) k (by omega), if_pos (show true = true from rfl), if_pos (show (chk d nm.data.toList ≠ 0 ∨ (true = true ∧ ¬ (d = 0 ∧ nm.data.toList = []))) from .inr ⟨rfl, fun h => hn h.2⟩)]
    ·rw [if_neg hd, j1_f l true d nm hbt true (fun h => by cases h) k (by omega), if_pos (show true = true from rfl), if_pos (show (chk d nm.data.toList ≠ 0 ∨ (true = true ∧ ¬ (d = 0 ∧ nm.data.toList = []))) from .inr ⟨rfl, fun h => hd h.1⟩)]
   | false =>
    rw [if_neg (show ¬ (false = true) by decide), j1_f l false d nm hbt false (fun _ => hc) k (by omega), if_neg (show ¬ (false = true) by decide), if_neg (show ¬ (chk d nm.data.toList ≠ 0 ∨ (false = true ∧ ¬ (d = 0 ∧ nm.data.toList = []))) from fun h => h.elim (fun h => h hc) (fun h => by cases h.1))]
  ·rw [if_neg hc, j1_f l b d nm hbt true (fun h => by cases h) k (by omega), if_pos (show true = true from rfl), if_pos (show (chk d nm.data.toList ≠ 0 ∨ (b = true ∧ ¬ (d = 0 ∧ nm.data.toList = []))) from .inl hc)]
 | succ m ih =>
  intro i k hi hm hk hbt
  obtain ⟨k, rfl⟩ : ∃ j, k = j + 1 := ⟨k - 1, by omega⟩
  have hlt : i < l.length := by omega
  have hbn := bad_take l i hlt; have hbm := bad_more l i hlt; simp only [arbiterref02_DescText.l0, arbiterref02_Check.f, Option.bind_some]; rw [if_pos (by omega), if_pos (by omega)]
  by_cases hc : chk (rd_T41 l (i : Int)).f0 (rd_T41 l (i : Int)).f1.data.toList = 0
  ·rw [if_pos hc, wrap_small (by omega) (by omega)]
   exact ih (i + 1) k (by omega) (by omega) (by omega) (by rw [hbn, hbt, hc]; rfl)
  ·rw [if_neg hc, descT, if_pos (hbm hc)]
   rfl
theorem refdesc_f (l : List S41) (b : Bool) (d : Int) (nm : ByteArray) (hl : l.length ≤ 4611686018427387904) : arbiterref02_DescText.f (2 * l.length + 303) l b d nm = some (tup2 (descT l b d nm.data.toList)) := by
 unfold arbiterref02_DescText.f
 exact l0_f l b d nm hl l.length 0 _ (by omega) (by omega) (by omega) (by simp [descBad])
theorem same_self' (d : Int) (nm : ByteArray) : arbiterref02_Same.f d nm d nm = some true := by simp [arbiterref02_Same.f]
theorem sametypes_l0 (l : List S41) (hl : l.length < 4611686018427387904) (m : Nat) : ∀ (i k : Nat), i ≤ l.length → l.length - i = m → m < k → arbiterref02_SameTypes.l0 k l l i = some true := by
 induction m with
 | zero =>
  intro i k hi hm hk
  obtain ⟨k, rfl⟩ : ∃ j, k = j + 1 := ⟨k - 1, by omega⟩
  simp only [arbiterref02_SameTypes.l0]; rw [if_neg (by omega)]
 | succ m ih =>
  intro i k hi hm hk
  obtain ⟨k, rfl⟩ : ∃ j, k = j + 1 := ⟨k - 1, by omega⟩
  simp only [arbiterref02_SameTypes.l0]; rw [if_pos (show (i : Int) < l.length by omega), if_pos (show 0 ≤ (i : Int) by omega), if_pos (show (i : Int) < l.length by omega), same_self', Option.bind_some, if_pos rfl, wrap_small (by omega) (by omega)]
  exact ih (i + 1) k (by omega) (by omega) (by omega)
theorem sametypes_f (l : List S41) (hl : l.length < 4611686018427387904) : arbiterref02_SameTypes.f (l.length + 1) l l = some true := by
 unfold arbiterref02_SameTypes.f; rw [if_pos rfl]
 exact sametypes_l0 l hl l.length 0 _ (by omega) (by omega) (by omega)
theorem samedesc_f (l : List S41) (b : Bool) (d : Int) (nm : ByteArray) (hl : l.length < 4611686018427387904) : arbiterref02_SameDesc.f (l.length + 1) l b d nm l b d nm = some true := by
 unfold arbiterref02_SameDesc.f; rw [if_pos (by simp), same_self', Option.bind_some, if_pos rfl, sametypes_f l hl]
 rfl
theorem upTo_semi' (nm r : List UInt8) (h : ∀ x ∈ nm, x ≠ 59) : upTo (nm ++ 59 :: r) = nm ∧ behind (nm ++ 59 :: r) = some r := by
 induction nm with
 | nil => exact ⟨rfl, rfl⟩
 | cons x l ih =>
  have hx : x ≠ 59 := h x (by simp); have := ih (fun y hy => h y (by simp [hy])); rw [List.cons_append, upTo, behind, if_neg hx, if_neg hx, this.1, this.2]
  exact ⟨rfl, rfl⟩
theorem rd_more (d : Nat) (nm r : List UInt8) (h : okN nm) : rd (wr d nm ++ r) = ⟨d, nm, some r⟩ := by
 obtain ⟨h1, h2⟩ := opens_rep d (base nm ++ r) (by
  intro q hq; unfold base at hq
  split at hq <;> cases hq)
 unfold wr; rw [List.append_assoc, rd, h2, h1]; unfold base
 by_cases hn : nm = []
 ·rw [if_pos hn, hn]; rfl
 ·rw [if_neg hn]
  have hv : validB (bs nm) = true := by rcases h with h | h; exact absurd h hn; exact h
  obtain ⟨a, b⟩ := upTo_semi' nm r (fun x hx => (valid_not nm hv x hx).1); simp only [List.cons_append, List.append_assoc, List.nil_append]; rw [if_neg (by decide), if_pos trivial, a, b, hv]
  rfl
theorem wr_took (d : Nat) (nm r : List UInt8) (c : UInt8) (h1 : c ≠ 91) (h2 : c ≠ 73) (h3 : c ≠ 76) : took (wr d nm ++ r) c = false := by
 unfold wr base
 cases d with
 | zero => split <;> simp [took, h2.symm, h3.symm]
 | succ d => rw [List.replicate_succ]; simp [took, h1.symm]
def fromS (t : S41) : Nat × List UInt8 := (t.f0.toNat, t.f1.data.toList)
theorem bad_each {l : List S41} (h : descBad l = false) (t : S41) (ht : t ∈ l) : chk t.f0 t.f1.data.toList = 0 := by
 unfold descBad at h; rw [List.any_eq_false] at h
 simpa using h t ht
theorem to_from {l : List S41} (h : descBad l = false) : (l.map fromS).map toS = l := by
 rw [List.map_map]
 conv => rhs; rw [← List.map_id l]
 apply List.map_congr_left
 intro t ht; obtain ⟨h0, _, _⟩ := chk_bounds (bad_each h t ht); obtain ⟨a, b⟩ := t; simp only [Function.comp, fromS, toS, mk_data, id]; simp only at h0; rw [Int.toNat_of_nonneg h0]
theorem args_read (l : List S41) (h : descBad l = false) (q : List UInt8) : ∀ f, l.length < f → rdArgs f (descCat l ++ 41 :: q) = some (l.map fromS, q) := by
 induction l with
 | nil =>
  intro f hf
  obtain ⟨f, rfl⟩ : ∃ j, f = j + 1 := ⟨f - 1, by simp at hf; omega⟩
  rw [rdArgs]
  rfl
 | cons t l ih =>
  intro f hf; rw [List.length_cons] at hf
  obtain ⟨f, rfl⟩ : ∃ j, f = j + 1 := ⟨f - 1, by omega⟩
  have hc := chk_name _ _ (bad_each h t (by simp))
  have hb : descBad l = false := by
   unfold descBad at h ⊢; rw [List.any_cons, Bool.or_eq_false_iff] at h
   exact h.2
  have e : descCat (t :: l) ++ 41 :: q = wr t.f0.toNat t.f1.data.toList ++ (descCat l ++ 41 :: q) := by
   unfold descCat; rw [List.flatMap_cons, List.append_assoc]
  rw [e, rdArgs, if_neg (by rw [wr_took _ _ _ _ (by decide) (by decide) (by decide)]; decide), rd_more _ _ _ hc]; simp only; rw [ih hb f (by omega)]
  rfl
theorem wide_from {l : List S41} (h : descBad l = false) : wideL (l.map fromS) = false := by
 unfold wideL; rw [List.any_eq_false]; intro p hp; obtain ⟨t, ht, rfl⟩ := List.mem_map.1 hp; obtain ⟨h0, h1, _⟩ := chk_bounds (bad_each h t ht)
 show ¬ (decide (255 < t.f0.toNat) = true)
 rw [decide_eq_true_eq]
 omega
theorem cat_ge (l : List S41) : l.length ≤ (descCat l).length := by
 induction l with
 | nil => simp
 | cons t l ih =>
  have h := wr_pos t.f0.toNat t.f1.data.toList; unfold descCat at ih ⊢; rw [List.flatMap_cons, List.length_append, List.length_cons]
  omega
theorem ret_some (ts : List (Nat × List UInt8)) {q nm r : List UInt8} {k : Nat} (ht : took q 86 = false) (hr : rd q = ⟨k, nm, some r⟩) : descRet ts q = descEnd ⟨ts, false, k, nm⟩ (wideL ts || decide (255 < k)) r := by
 unfold descRet; rw [ht, hr]
 rfl
theorem desc_forth (l : List S41) (b : Bool) (d : Int) (nm s : List UInt8) (h : descT l b d nm = (s, 0)) : parseD s = (⟨l.map fromS, b, d, nm⟩, 0) ∧ (l.map fromS).map toS = l ∧ l.length ≤ 20 := by
 unfold descT at h
 split at h
 ·simp at h
 ·rename_i hb
  simp only [Bool.not_eq_true] at hb
  split at h
  ·simp at h
  ·rename_i hc
   split at h
   ·simp at h
   ·rename_i h20
    split at h
    ·simp at h
    ·rename_i hlen
     simp only [Prod.mk.injEq, and_true] at h; subst h; refine ⟨?_, to_from hb, by omega⟩; have hcd : chk d nm = 0 := Decidable.byContradiction fun hx => hc (.inl hx); have hge := cat_ge l
     have hlt : (descBody l b d nm).length = (descCat l).length + 2 + (if b = true then [86] else wr d.toNat nm).length := by
      unfold descBody; simp; omega
     unfold parseD; rw [if_neg hlen, if_pos (by rfl)]; have hR := args_read l hb (if b = true then [86] else wr d.toNat nm) ((descBody l b d nm).length + 1) (by omega); rw [show (descBody l b d nm).tail = descCat l ++ 41 :: (if b = true then [86] else wr d.toNat nm) from rfl, hR]
     show descRet _ _ = _
     cases b with
     | true =>
      have hz : d = 0 ∧ nm = [] := Decidable.byContradiction fun hx => hc (.inr ⟨rfl, hx⟩); obtain ⟨rfl, rfl⟩ := hz; unfold descRet; rw [if_pos rfl, if_pos (by rfl)]; unfold descEnd; rw [if_neg (by simp), wide_from hb, if_neg (by simp; omega)]
     | false =>
      obtain ⟨h0, h1, h2⟩ := chk_bounds hcd; have hr := rd_more d.toNat nm [] (chk_name _ _ hcd); rw [List.append_nil] at hr; have ht := wr_took d.toNat nm [] 86 (by decide) (by decide) (by decide); rw [List.append_nil] at ht
      show descRet (l.map fromS) (wr d.toNat nm) = _
      rw [ret_some _ ht hr]; unfold descEnd; rw [if_neg (by simp), wide_from hb, if_neg (by simp; omega), Int.toNat_of_nonneg h0]
end Go.Proofs.YtajplppeijmfpaaDoor.Td

namespace Go.Proofs.YtajplppeijmfpaaDoor.Ap
open Go Go.RowKit
set_option linter.unusedVariables false
set_option linter.unusedSimpArgs false
theorem heap_lt' {w : World} {g : Nat} {o : Obj} (h : w.heap[g]? = some o) : g < w.heap.size := (Array.getElem?_eq_some_iff.1 h).1
theorem own_form {w : World} {B : Nat} {e : TypeId} {v : Value} {n : Nat} {xs : List Value} (h : w.ownsRow B e 1 v n xs) :
  (v = .slice none 0 0 ∧ n = 0) ∨ ∃ g c, v = .slice (some ⟨g, 0, none⟩) n c ∧ n ≤ c ∧ c ≤ maxLen ∧ B ≤ g ∧ g < w.heap.size := by
 rcases h.2 with ⟨h1, h2⟩ | ⟨g, cap, cur, h', hb, hg, hnc, hcm, hcs, ht⟩
 ·exact .inl ⟨h1, h2⟩
 ·exact .inr ⟨g, cap, h', hnc, hcm, hb, heap_lt' hg⟩
structure Grows (W w : World) (B : Nat) (e : TypeId) (X v0 g : Value) (n m : Nat) : Prop where
 row : w.ownsRow B e 1 g (n + m) (List.replicate (n + m) X)
 old : w.ownsRow B e 1 v0 n (List.replicate n X)
 place : g.ownBlock = v0.ownBlock ∨ ∃ k, g.ownBlock = some k ∧ W.heap.size ≤ k
 os : w.os = W.os
 tape : w.tape = W.tape
 output : w.output = W.output
 size : W.heap.size ≤ w.heap.size
 block : ∀ k, k < W.heap.size → v0.ownBlock ≠ some k → w.heap[k]? = W.heap[k]?
theorem Grows.alloc {W w : World} {B : Nat} {e : TypeId} {X v0 g : Value} {n m : Nat} (h : Grows W w B e X v0 g n m) (o : Obj) : Grows W (w.alloc o) B e X v0 g n m :=
 ⟨h.row.alloc o, h.old.alloc o, h.place, h.os, h.tape, h.output, by have := h.size; simp; omega, fun k hk hn => (Below.heap_alloc w o k (Nat.lt_of_lt_of_le hk h.size)).trans (h.block k hk hn)⟩
theorem Grows.drew {W w : World} {B : Nat} {e : TypeId} {X v0 g : Value} {n m : Nat} (h : Grows W w B e X v0 g n m) : Grows W w.drew B e X v0 g n m :=
 ⟨h.row, h.old, h.place, h.os, h.tape, h.output, h.size, h.block⟩
theorem own_below {w w' : World} {B : Nat} {e : TypeId} {v : Value} {n : Nat} {xs : List Value} (h : w.ownsRow B e 1 v n xs) (hb : Below w.heap.size w w') : w'.ownsRow B e 1 v n xs :=
 h.kept (w' := w') (row := none) ⟨hb.os, hb.tape, hb.output, hb.size, fun k hk _ => hb.block k hk⟩ (by by_cases hv : v.ownBlock = none <;> simp [hv])
theorem Grows.below {W w w' : World} {B : Nat} {e : TypeId} {X v0 g : Value} {n m : Nat} (h : Grows W w B e X v0 g n m) (hb : Below w.heap.size w w') : Grows W w' B e X v0 g n m :=
 ⟨own_below h.row hb, own_below h.old hb, h.place, hb.os.trans h.os, hb.tape.trans h.tape, hb.output.trans h.output, Nat.le_trans h.size hb.size, fun k hk hn => (hb.block k (Nat.lt_of_lt_of_le hk h.size)).trans (h.block k hk hn)⟩
structure Fam (w : World) (B : Nat) (e : TypeId) (K : Nat) (v : Nat → Value) (n : Nat → Nat) (xs : Nat → List Value) : Prop where
 row : ∀ i, i < K → w.ownsRow B e 1 (v i) (n i) (xs i)
 apart : ∀ i j k, i < K → j < K → (v i).ownBlock = some k → (v j).ownBlock = some k → i = j
structure Spared (w w' : World) (K : Nat) (v : Nat → Value) : Prop where
 os : w'.os = w.os
 tape : w'.tape = w.tape
 output : w'.output = w.output
 size : w.heap.size ≤ w'.heap.size
 block : ∀ k, k < w.heap.size → (∀ i, i < K → (v i).ownBlock ≠ some k) → w'.heap[k]? = w.heap[k]?
theorem Spared.refl (w : World) (K : Nat) (v : Nat → Value) : Spared w w K v := ⟨rfl, rfl, rfl, Nat.le_refl _, fun _ _ _ => rfl⟩
theorem Spared.alloc {w w' : World} {K : Nat} {v : Nat → Value} (h : Spared w w' K v) (o : Obj) : Spared w (w'.alloc o) K v :=
 ⟨h.os, h.tape, h.output, by have := h.size; simp; omega, fun k hk hn => (Below.heap_alloc w' o k (Nat.lt_of_lt_of_le hk h.size)).trans (h.block k hk hn)⟩
theorem Spared.drew {w w' : World} {K : Nat} {v : Nat → Value} (h : Spared w w' K v) : Spared w w'.drew K v := ⟨h.os, h.tape, h.output, h.size, h.block⟩
theorem Spared.below {w w' w2 : World} {K : Nat} {v : Nat → Value} (h : Spared w w' K v) (hb : Below w'.heap.size w' w2) : Spared w w2 K v :=
 ⟨hb.os.trans h.os, hb.tape.trans h.tape, hb.output.trans h.output, Nat.le_trans h.size hb.size, fun k hk hn => (hb.block k (Nat.lt_of_lt_of_le hk h.size)).trans (h.block k hk hn)⟩
theorem Spared.set {w w' : World} {K : Nat} {v : Nat → Value} (h : Spared w w' K v) (a : Addr) (u : Value) (ha : w.heap.size ≤ a.block ∨ ∃ i, i < K ∧ (v i).ownBlock = some a.block) : Spared w (w'.setCell a u) K v :=
 ⟨h.os, h.tape, h.output, by simpa [World.setCell] using h.size, fun k hk hn => (Below.heap_setCell w' a u k (fun e => by
  rcases ha with ha | ⟨i, hi, hv⟩
  ·omega
  ·exact hn i hi (by rw [hv, e]))).trans (h.block k hk hn)⟩
theorem Spared.kept {w w' : World} {K : Nat} {v : Nat → Value} (h : Spared w w' K v) {B : Nat} {e : TypeId} {u : Value} {n : Nat} {xs : List Value} (hr : w.ownsRow B e 1 u n xs) (hn : ∀ i k, i < K → (v i).ownBlock = some k → u.ownBlock ≠ some k) : w'.ownsRow B e 1 u n xs := by
 rcases own_form hr with ⟨rfl, rfl⟩ | ⟨g, c, rfl, hc, hcm, hB, hg⟩
 ·obtain ⟨h1, h2⟩ := hr
  exact ⟨h1, .inl ⟨rfl, rfl⟩⟩
 ·have hb := h.block g hg (fun i hi e => hn i g hi e rfl)
  obtain ⟨h1, h2⟩ := hr
  rcases h2 with ⟨h', _⟩ | ⟨g', cap', cur, h', r⟩
  ·simp at h'
  ·simp only [Value.slice.injEq, Option.some.injEq, Addr.mk.injEq, and_true, true_and] at h'
   obtain ⟨rfl, rfl⟩ := h'
   exact ⟨h1, .inr ⟨g, c, cur, rfl, r.1, hb.trans r.2.1, r.2.2⟩⟩
structure Stage (w wr : World) (B : Nat) (e eS : TypeId) (K L G : Nat) (v : Nat → Value) (n : Nat → Nat) (ys : Nat → List Value) (gs : List Value) : Prop where
 fam : Fam wr B e K v n ys
 cell : ∀ i, i < K → wr.cell? ⟨L, i, none⟩ = some (v i)
 grown : wr.ownsRow w.heap.size eS 1 (.slice (some ⟨G, 0, none⟩) K K) K gs
 spared : Spared w wr K v
section
variable {w wr : World} {B : Nat} {e eS : TypeId} {K L G : Nat} {v : Nat → Value} {n : Nat → Nat} {ys : Nat → List Value} {gs : List Value}
theorem Stage.base (h : Stage w wr B e eS K L G v n ys gs) : w.heap.size ≤ G ∧ G < wr.heap.size := h.grown.lt G rfl
theorem Stage.below (h : Stage w wr B e eS K L G v n ys gs) {w2 : World} (hb : Below wr.heap.size wr w2) : Stage w w2 B e eS K L G v n ys gs :=
 ⟨⟨fun i hi => own_below (h.fam.row i hi) hb, h.fam.apart⟩, fun i hi => (hb.cell (World.block_lt_of_cell? _ _ (h.cell i hi))).trans (h.cell i hi), own_below h.grown hb, h.spared.below hb⟩
theorem Stage.congr (h : Stage w wr B e eS K L G v n ys gs) {zs : Nat → List Value} (hz : ∀ t, t < K → zs t = ys t) : Stage w wr B e eS K L G v n zs gs :=
 ⟨⟨fun i hi => by rw [hz i hi]; exact h.fam.row i hi, h.fam.apart⟩, h.cell, h.grown, h.spared⟩
theorem Stage.store (h : Stage w wr B e eS K L G v n ys gs) {i j g c : Nat} (hi : i < K) (hv : v i = .slice (some ⟨g, 0, none⟩) (n i) c) (hvb : ∀ i b, i < K → (v i).ownBlock = some b → b < w.heap.size) (hL : ∀ i, i < K → (v i).ownBlock ≠ some L) (u : Value)
  {zs : Nat → List Value} (hz : ∀ k, k < K → zs k = if k = i then (ys i).set j u else ys k) : Stage w (wr.setCell ⟨g, j, none⟩ u) B e eS K L G v n zs gs := by
 have hb : (v i).ownBlock = some g := by rw [hv]; rfl
 have hg := hvb i g hi hb; have hG := h.base; refine ⟨⟨fun k hk => ?_, h.fam.apart⟩, fun k hk => ?_, ownsRow_setCell_other h.grown (by show some G ≠ some g; intro e; injection e with e; omega) u, h.spared.set _ _ (.inr ⟨i, hi, hb⟩)⟩
 ·rw [hz k hk]
  split
  ·rename_i e
   subst e; have := h.fam.row k hk; rw [hv] at this ⊢
   exact (this.stored j u).1
  ·rename_i hne
   exact ownsRow_setCell_other (h.fam.row k hk) (fun e => hne (h.fam.apart k i g hk hi e hb)) u
 ·rw [World.cell?_setCell_other (h := by
   intro e; injection e with e1
   exact hL i hi (by rw [hb, e1]))]
  exact h.cell k hk
theorem Stage.put (h : Stage w wr B e eS K L G v n ys gs) (hvb : ∀ i b, i < K → (v i).ownBlock = some b → b < w.heap.size) (hLG : L < w.heap.size) (i : Nat) (u : Value) : Stage w (wr.setCell ⟨G, i, none⟩ u) B e eS K L G v n ys (gs.set i u) := by
 have hG := h.base; refine ⟨⟨fun k hk => ownsRow_setCell_other (h.fam.row k hk) (fun e => by have := hvb k G hk e; omega) u, h.fam.apart⟩, fun k hk => ?_, (h.grown.stored i u).1, h.spared.set _ _ (.inl hG.1)⟩
 rw [World.cell?_setCell_other (h := by
  intro e; injection e with e1
  omega)]
 exact h.cell k hk
def Grew (wr : World) (B : Nat) (e : TypeId) (M H : Nat) (v : Nat → Value) (n : Nat → Nat) (X : Nat → Value) (i : Nat) (gs : List Value) : Prop :=
 ∀ j, j < i → ∃ g, gs[j]? = some g ∧ wr.ownsRow B e 1 g (n j + M) (List.replicate (n j + M) (X j)) ∧ (g.ownBlock = (v j).ownBlock ∨ ∃ b, g.ownBlock = some b ∧ H ≤ b)
theorem Grew.below {M H i : Nat} {X : Nat → Value} (h : Grew wr B e M H v n X i gs) {w2 : World} (hb : Below wr.heap.size wr w2) : Grew w2 B e M H v n X i gs := fun j hj => by
 obtain ⟨g, h1, h2, h3⟩ := h j hj
 exact ⟨g, h1, own_below h2 hb, h3⟩
end
end Go.Proofs.YtajplppeijmfpaaDoor.Ap

namespace Go.Proofs.YtajplppeijmfpaaDoor.Td
open Go Go.RowKit Go.Proofs.YtajplppeijmfpaaDoor.Nm Go.Proofs.YtajplppeijmfpaaDoor.Ty Go.Proofs.YtajplppeijmfpaaDoor.Pt Go.Proofs.YtajplppeijmfpaaDoorW.PrintWords Go.Proofs.YtajplppeijmfpaaDoorW.PrintLast Go.Proofs.YtajplppeijmfpaaDoorW.PrintMore
set_option linter.unusedVariables false
set_option linter.unusedSimpArgs false
set_option maxHeartbeats 4000000
set_option maxRecDepth 100000
def tdsT5 : Bool × List (List Nat × List Nat) := (true, [([], []), ([], []), ([0, 1], [0, 1]), ([], []), ([3], [3]), ([], []), ([5], [5]), ([2, 4, 6], [2, 4, 6]), ([7], [7]), ([8], [8]), ([9], [9]), ([9], [9]), ([10, 8, 0, 1, 2, 3, 4, 5, 6, 7, 8, 9, 10], [10]), ([11, 12, 0, 1, 2, 3, 4, 5, 6, 7, 8, 9, 10, 11, 12], [11])])
def tdsB5 : List Nat := [0, 0, 3, 0, 8, 0, 32, 127, 255, 511, 1023, 1023, 2047, 8191]
theorem tdstab5 : rtab .any (opsOf Tryd.f6 5) = tdsT5 := by kernel_rfl
theorem tdsbits5 : waitsOk tdsT5.2 tdsB5 = true := by kernel_rfl
def tdsT7 : Bool × List (List Nat × List Nat) := (true, [([], []), ([], []), ([0, 1], [0, 1]), ([2], [2]), ([3], [3]), ([3], [3]), ([4, 5, 3], [3, 4, 5]), ([3, 6], [3, 6]), ([7, 3], [7]), ([8], [8]), ([8], [8]), ([9, 10, 8], [8, 9, 10]), ([8], [8]), ([12, 8], [8, 12]), ([11, 13, 8, 8], [8, 11, 13]), ([14, 8], [8, 14]), ([8, 15], [8, 15]), ([16, 14], [16]), ([17], [17]), ([17], [17]), ([18, 19, 17], [17, 18, 19]), ([20, 17], [17, 20]), ([21, 17], [17, 21]), ([22, 17], [17, 22]), ([17, 23], [17, 23]), ([24, 17], [24]), ([25], [25]), ([25], [25]), ([27, 25], [25, 27]), ([26, 28, 25], [25, 26, 28]), ([29, 25], [25, 29]), ([30, 25], [25, 30]), ([31, 25], [25, 31]), ([25, 32], [25, 32])])
def tdsB7 : List Nat := [0, 0, 3, 7, 15, 15, 63, 127, 255, 511, 511, 2047, 511, 4607, 16383, 32767, 65535, 131071, 262143, 262143, 1048575, 2097151, 4194303, 8388607, 16777215, 33554431, 67108863, 67108863, 201326591, 536870911, 1073741823, 2147483647, 4294967295, 8589934591]
theorem tdstab7 : rtab .any (opsOf Tryd.f6 7) = tdsT7 := by kernel_rfl
theorem tdsbits7 : waitsOk tdsT7.2 tdsB7 = true := by kernel_rfl
theorem infoT : (Tryd.prog.info? 41).map (fun i => (i.zero, i.size, i.bytes)) = some (some (.agg #[.int .i64 0, .string ⟨#[]⟩]), k41.sz, 24) := by kernel_rfl
def t71 : S41 := ⟨-71, ⟨#[]⟩⟩
def t72 : S41 := ⟨-72, ⟨#[]⟩⟩
theorem own_empty (w : World) : Kd.R k41 41 (w.alloc (.cells #[] 41)) w.heap.size (fun _ => True) (.slice (some ⟨w.heap.size, 0, none⟩) 0 0) [] :=
 ⟨fun _ _ => trivial, [], ⟨by simp, .inr ⟨w.heap.size, 0, #[], rfl, Nat.le_refl _, heap_alloc_new w _, Nat.le_refl _, Nat.zero_le _, by simp, by simp⟩⟩, Reps.none _ _⟩
theorem k_KM {w : World} {W : World} {base : Nat} {ok : Nat → Prop} (x : S41) (cs : List Value) (h : k41.K w x cs) : k41.M W base ok x cs := by
 obtain rfl := k41_open h
 exact k41_mkM _ _ _ _
def twoC : Array Value := #[.int .i64 (-71), .string ⟨#[]⟩, .int .i64 (-72), .string ⟨#[]⟩]
theorem two_new (w : World) : Kd.C k41 (w.alloc (.cells #[.int .i64 (-71), .string ⟨#[]⟩, .int .i64 (-72), .string ⟨#[]⟩] 41)) (some ⟨w.heap.size, 0, none⟩) 2 [t71, t72] := by
 have r0 := World.ownsRow_lit (e := 41) (base := w.heap.size) (size := 2) w twoC 2 (Nat.le_refl _) (by decide) rfl
 have hR : Kd.R k41 41 (w.alloc (.cells #[.int .i64 (-71), .string ⟨#[]⟩, .int .i64 (-72), .string ⟨#[]⟩] 41)) w.heap.size (fun _ => True) (.slice (some ⟨w.heap.size, 0, none⟩) 2 2) [t71, t72] :=
  ⟨fun _ _ => trivial, twoC.toList, r0, rfl, fun j p hj => by
   match j, hj with
   | 0, h => simp at h; subst h; exact k41_mkM _ _ _ _
   | 1, h => simp at h; subst h; exact k41_mkM _ _ _ _
   | (j + 2), h => simp at h⟩
 exact (Kd.R_reads' hR).2.2
theorem grown_alloc {a b : World} {row : Option Nat} (h : a.grownBy b row) (o : Obj) : a.grownBy (b.alloc o) row :=
 ⟨h.os, h.tape, h.output, by have := h.size; simp; omega, fun k hk hn => (Below.heap_alloc b o k (Nat.lt_of_lt_of_le hk h.size)).trans (h.block k hk hn)⟩
def eightC : Array Value := #[.int .i64 8, .string ⟨#[]⟩, .int .i64 8, .string ⟨#[]⟩, .int .i64 8, .string ⟨#[]⟩]
theorem append3 {P : Program} {ops : Array Oper} {rest : List Oper} {o : Oper} {a : Act} {Q : Exit → Act → World → Prop} {W : World} (base : Nat) (hgd : o.guard = none) (s x : Operand) (t e : TypeId)
  (ho : o.op = .call { callee := .builtin .append, args := #[s, x], argTypes := #[t, t] })
  (ht : P.underlying t = some (.slice e)) (hinfo : (P.info? e).map (fun i => (i.zero, i.size, i.bytes)) = some (some (.agg #[.int .i64 0, .string ⟨#[]⟩]), 2, 24))
  (A : Option Addr) (c n N3 g : Nat) (ys : List Value) (hs : a.eval s = .slice A n c) (hx : a.eval x = .slice (some ⟨g, 0, none⟩) 3 3) (hg : W.heap[g]? = some (.cells eightC e (0, 0)))
  (HO : W.ownsRow base e 2 (.slice A n c) n ys) (hbase : base ≤ W.heap.size) (hn : n ≤ 20) (hN : N3 = n + 3)
  (h : ∀ A1 c1 w1, W.grownBy w1 (Value.slice A n c).ownBlock → wpList P ops Q rest (a.put o.dst (.slice A1 N3 c1)) w1) :
  wpList P ops Q (o :: rest) a W := by
 obtain ⟨i0, hi, hzz⟩ := Option.map_eq_some_iff.1 hinfo; simp only [Prod.mk.injEq] at hzz; obtain ⟨hz0, hz1, hz2⟩ := hzz; subst hN; refine wpList_append_own W hgd s x t ho base e i0 _ 2 24 ht hi hz0 hz1 hz2 rfl (by decide) (.slice A n c) n ys hs HO ⟨g, 0, none⟩ 3 3 eightC.toList hx rfl ?_ ?_ (by simp only [maxLen]; omega) (by omega) hbase ?_
 ·intro j u hu
  rw [Addr.add_lit, cell_of_row W g _ eightC e (0, 0) hg]
  simpa using hu
 ·intro u hu
  simp only [eightC, List.mem_cons, List.not_mem_nil, or_false] at hu
  rcases hu with rfl | rfl | rfl | rfl | rfl | rfl <;> rfl
 ·intro v1 w1 hown hgr _
  rcases hown.2 with ⟨_, h0⟩ | ⟨g', cap', cur', rfl, _⟩
  ·omega
  ·exact h _ _ w1 hgr
theorem descs_any (A : Option Addr) (c : Nat) (l : List S41) (b : Bool) (d : Int) (nm : ByteArray) (w : World) (hl : l.length * 24 ≤ 140737488351232) (hr : Kd.C k41 w A l.length l) (hc : l.length ≤ c) :
  Calls Tryd.prog 6 #[.agg #[.slice A l.length c, .bool b, .int .i64 d, .string nm]] w fun e w' => e = .returned (.bool true) ∧ Below w.heap.size w w' := by
 have AW := Lib.hid (fun W => arbiterlaw02_awake.calls true W tx_awake); have HC0 := Lib.hid hr; clear hr; go_enter Tryd.func6, Tryd.ntmps6
 go_upto_region 3 with (go_at_call 24; refine (AW.out _).mono ?_; rintro e w1 ⟨rfl, hb1⟩)
 clear AW; have Z1 : Hid (w1.heap[w.heap.size]? = some (.cells #[.slice A l.length c, .bool b, .int .i64 d, .string nm] 43 (0, 0))) := Lib.hid (blk_below (heap_alloc_new w _) hb1); have HB1 : Hid (Below w.heap.size w w1) := Lib.hid (((Below.refl _ w).alloc (Nat.le_refl _) _).trans (hb1.mono (by simp)))
 have hs1 : w.heap.size < w1.heap.size := by have := hb1.size; simp only [World.size_alloc] at this; omega
 clear hb1; have z0 : w1.cell? ⟨w.heap.size, 0, none⟩ = some (.slice A l.length c) := (blk_cell Z1.out 0).trans rfl; have HCa := Lib.hid (Kd.C_below HC0.out HB1.out); have HO := Lib.hid (own_empty w1); have BA := Lib.hid ((Below.refl w1.heap.size w1).alloc (Nat.le_refl _) (.cells #[] 41)); have HCb := Lib.hid (Kd.C_below HCa.out BA.out)
 go_cut [3] (fun v3 wc => ∃ A3 c3, v3 = .slice A3 (l.length + 2) c3 ∧ Hid (Kd.R k41 41 wc w1.heap.size (fun _ => True) (.slice A3 (l.length + 2) c3) (l ++ [t71, t72])) ∧ Hid (Below w1.heap.size w1 wc))
 case first =>
  go_wp2_with (first
   | (at_builtin; refine Kd.R_append_rows k41 (Rr := k41.K (w1.alloc (.cells #[] 41))) (w0 := w1) w1.heap.size rfl (.tmp 17) (.tmp 19) 39 41 (.agg #[.int .i64 0, .string ⟨#[]⟩]) 24 rfl Tryd.underlying39 infoT rfl (by decide) (by omega) _ [] l _ l.length c (fun _ => True) (fun _ => False) rfl rfl HO.out HCb.out (fun x cs h => k_KM x cs h) (fun _ h => h.elim) (fun _ _ => trivial) BA.out (by simp) (by simp only [List.length_nil]; omega) ?_; intro v5 w5 h1 h2 _ _; rw [List.nil_append] at h1; replace h1 := Lib.hid h1; replace h2 := Lib.hid h2; have h3 := h2.out.size; have h4 := Lib.hid (Kd.R_alloc h1.out (.cells #[.int .i64 (-71), .string ⟨#[]⟩, .int .i64 (-72), .string ⟨#[]⟩] 41)); have h5 := Lib.hid (two_new w5))
   | (at_builtin; refine Kd.R_append_rows k41 (Rr := k41.K (w5.alloc (.cells #[.int .i64 (-71), .string ⟨#[]⟩, .int .i64 (-72), .string ⟨#[]⟩] 41))) (w0 := w1) w1.heap.size rfl (.tmp 20) (.tmp 23) 39 41 (.agg #[.int .i64 0, .string ⟨#[]⟩]) 24 rfl Tryd.underlying39 infoT rfl (by decide) (by omega) _ l [t71, t72] _ 2 2 (fun _ => True) (fun _ => False) rfl rfl h4.out h5.out (fun x cs h => k_KM x cs h) (fun _ h => h.elim) (fun _ _ => trivial) (h2.out.alloc h3 _) (by simp; omega) (by omega) ?_; intro v6 w6 h6 h7 _ _))
  go_meet
  case rel =>
   obtain ⟨A6, c6, rfl⟩ := Kd.R_slice h6
   have hn : (l ++ [t71, t72]).length = l.length + 2 := by simp
   rw [hn] at h6 ⊢
   exact ⟨A6, c6, rfl, h6, h7⟩
 case rest =>
  obtain ⟨A3, c3, rfl, HR3, HB3⟩ := hcut; obtain ⟨hcx, hc3, HC3⟩ := Kd.R_reads' HR3.out; clear hcx
  have hn2 : (l ++ [t71, t72]).length = l.length + 2 := by simp
  rw [hn2] at HC3; clear HO BA HCb HR3 z0; obtain ⟨ad, hA3, x1, x1n⟩ := at_T41 HC3 (l.length : Int) (by omega) (by omega); obtain ⟨ad', hA3', x2, x2n⟩ := at_T41 HC3 (((l.length + 1 : Nat) : Int)) (by omega) (by omega)
  have e71 : rd_T41 (l ++ [t71, t72]) (l.length : Int) = t71 := by simp [rd_T41]
  have e72 : rd_T41 (l ++ [t71, t72]) (((l.length + 1 : Nat) : Int)) = t72 := by simp [rd_T41]
  rw [e71, Int.toNat_natCast] at x1; rw [e72, Int.toNat_natCast] at x2; obtain rfl := hA3; obtain rfl := Option.some.inj hA3'; clear hA3' e71 e72 x1n x2n
  have HCl : Hid (Kd.C k41 wc (some ad) l.length l) := by
   have h := Kd.C_take (m := l.length) (show Kd.C k41 wc (some ad) (l ++ [t71, t72]).length (l ++ [t71, t72]) by rw [hn2]; exact HC3) (by simp); rw [List.take_left' rfl] at h
   exact h
  clear HC3 hn2; have Zc : Hid (wc.heap[w.heap.size]? = some (.cells #[.slice A l.length c, .bool b, .int .i64 d, .string nm] 43 (0, 0))) := Lib.hid (blk_below Z1.out HB3.out); have HBc := Lib.hid (HB1.out.trans (HB3.out.mono (Nat.le_of_lt hs1))); have hsc : w.heap.size < wc.heap.size := Nat.lt_of_lt_of_le hs1 HB3.out.size; have HCc := Lib.hid (Kd.C_below HC0.out HBc.out); clear HC0 HCa HB1 Z1 HB3 hs1
  obtain ⟨⟨sT, eT⟩, hdt⟩ : ∃ p, p = descT l b d nm.data.toList := ⟨_, rfl⟩
  have hF : Hid (eT = 0 → types_ParseDesc.f (bs sT) = some (l, b, d, nm, 0) ∧ l.length ≤ 20) := Lib.hid (fun h => by
   obtain ⟨h1, h2, h3⟩ := desc_forth l b d nm.data.toList sT (by rw [← hdt, h]); refine ⟨?_, h3⟩; unfold types_ParseDesc.f; rw [mk_toList, h1]; unfold tup5; simp only
   rw [h2, mk_data])
  have DT := Lib.hid (fun (W : World) (hb : Below wc.heap.size wc W) => types_DescText.calls (some ad) c3 l b d nm (bs sT) eT W (Kd.C_below HCl.out hb) (by omega) (by unfold types_DescText.f; rw [if_pos (by omega), ← hdt]; rfl)); have RT := Lib.hid (fun (W : World) (hb : Below wc.heap.size wc W) => arbiterref02_DescText.calls (2 * l.length + 303) A c l b d nm (bs sT) eT W (Kd.C_below HCc.out hb) hc (by rw [refdesc_f l b d nm (by omega), ← hdt]; rfl)); clear hdt; generalize bs sT = S at *
  obtain ⟨N1, hN1⟩ : ∃ N1, N1 = l.length + 1 := ⟨_, rfl⟩
  rw [← hN1] at x2
  obtain ⟨N2, hN2⟩ : ∃ N2, N2 = l.length + 2 := ⟨_, rfl⟩
  rw [← hN2] at hc3 ⊢; replace hN1 := Lib.hid hN1; replace hN2 := Lib.hid hN2; generalize hgm : w.heap.size = g0 at *; have z0 : wc.cell? ⟨g0, 0, none⟩ = some (.slice A l.length c) := (blk_cell Zc.out 0).trans rfl; go_upto_region 5 with fail; clear z0; have k1 : wc.drew.cell? ⟨g0, 1, none⟩ = some (.bool b) := (blk_cell Zc.out 1).trans rfl; have k2 : wc.drew.cell? ⟨g0, 2, none⟩ = some (.int .i64 d) := (blk_cell Zc.out 2).trans rfl; have k3 : wc.drew.cell? ⟨g0, 3, none⟩ = some (.string nm) := (blk_cell Zc.out 3).trans rfl; have hbd := Lib.hid (below_drew1 (Below.refl wc.heap.size wc)); refine start_ (n := 14) (S := fun w' => w'.cell? ⟨g0, 1, none⟩ = some (.bool b) ∧ w'.cell? ⟨g0, 2, none⟩ = some (.int .i64 d) ∧ w'.cell? ⟨g0, 3, none⟩ = some (.string nm)) (ds := []) (Array.replicate 14 false) (by kernel_rfl) rfl rfl ⟨k1, k2, k3⟩ (fun hHeld => ?_); refine with_tabW tdstab5 tdsbits5 (fun HT_ HW_ => ?_); generalize wc.drew = w4 at *
  have q1 : l.length ≤ c3 := by have := hN2.out; omega
  have q2 : ((l.length : Int) ≤ (c3 : Int)) = True := eq_true (by omega); have q3 : ((c3 : Int) < (l.length : Int)) = False := eq_false (by omega); have q4 : (0 ≤ (l.length : Int)) = True := eq_true (by omega); refine pX HT_ 0 (some 29) ?_; refine pX HT_ 1 (some 30) ?_; refine pX HT_ 2 (some 31) ?_; refine pX HT_ 3 (some 32) ?_; refine pX HT_ 5 (some 34) ?_; refine tX HT_ HW_ hHeld 4 (some 33) ?_; refine tX HT_ HW_ hHeld 6 (some 35) ?_; refine pX HT_ 7 (some 36) ?_; refine oX HT_ 8 (some 37) (fun K hK => ?_); refine hX Tryd.func25 #[.agg #[.slice (some ad) l.length c3, .bool b, .int .i64 d, .string nm]] ?_; refine (DT.out w4 hbd.out).mono ?_; rintro e w5 ⟨rfl, hb5⟩; refine ⟨_, rfl, ?_⟩; have hb6 := Lib.hid (hbd.out.trans (hb5.mono hbd.out.size)); refine hK.out _ _ ⟨(blk_cell (blk_below Zc.out hb6.out) 1).trans rfl, (blk_cell (blk_below Zc.out hb6.out) 2).trans rfl, (blk_cell (blk_below Zc.out hb6.out) 3).trans rfl⟩ (fun hHeld => ?_); clear hK K; refine nX (some 37) ?_; refine pX HT_ 9 (some 28) ?_; refine pX HT_ 10 (some 38) ?_; refine pX HT_ 11 (some 39) ?_; refine pX HT_ 12 (some 5) ?_; refine pX HT_ 13 (some 6) ?_; refine done_ (done_of HT_.out (by kernel_rfl)) ?_; clear hHeld HT_ HW_ hb5 hbd DT k1 k2 k3; have k0 : w5.cell? ⟨g0, 0, none⟩ = some (.slice A l.length c) := (blk_cell (blk_below Zc.out hb6.out) 0).trans rfl; have k1 : w5.cell? ⟨g0, 1, none⟩ = some (.bool b) := (blk_cell (blk_below Zc.out hb6.out) 1).trans rfl; have k2 : w5.cell? ⟨g0, 2, none⟩ = some (.int .i64 d) := (blk_cell (blk_below Zc.out hb6.out) 2).trans rfl; have k3 : w5.cell? ⟨g0, 3, none⟩ = some (.string nm) := (blk_cell (blk_below Zc.out hb6.out) 3).trans rfl
  go_upto_region 7 with (go_at_call 26; refine (RT.out w5 hb6.out).mono ?_; rintro e w6 ⟨rfl, hb7⟩)
  clear RT k0 k1 k2 k3; have hb8 := Lib.hid (hb6.out.trans (hb7.mono hb6.out.size)); clear hb7 hb6; have hbd := Lib.hid (hb8.out.trans ((below_drew1 (Below.refl w6.heap.size w6)).mono hb8.out.size)); have Zd := Lib.hid (blk_below Zc.out hbd.out); have k0 : w6.drew.cell? ⟨g0, 0, none⟩ = some (.slice A l.length c) := (blk_cell Zd.out 0).trans rfl; have k1 : w6.drew.cell? (ad.add (l.length * 2)) = some (.int .i64 (-71)) := pw_cell_below hbd.out x1; have k2 : w6.drew.cell? (ad.add (N1 * 2)) = some (.int .i64 (-72)) := pw_cell_below hbd.out x2; have ST := Lib.hid (fun (W : World) (hb : Below wc.heap.size wc W) => arbiterref02_SameTypes.calls (l.length + 1) (some ad) c3 l A c l true W (Kd.C_below HCl.out hb) q1 (Kd.C_below HCc.out hb) hc (sametypes_f l (by omega))); refine start_ (n := 34) (S := fun w' => w'.cell? ⟨g0, 0, none⟩ = some (.slice A l.length c) ∧ w'.cell? (ad.add (l.length * 2)) = some (.int .i64 (-71)) ∧ w'.cell? (ad.add (N1 * 2)) = some (.int .i64 (-72))) (ds := []) (Array.replicate 34 false) (by kernel_rfl) rfl rfl ⟨k0, k1, k2⟩ (fun hHeld => ?_); refine with_tabW tdstab7 tdsbits7 (fun HT_ HW_ => ?_); generalize w6.drew = w7 at *
  have hw1 : wrap64 ((l.length : Int) + 1) = (N1 : Int) := by have := hN1.out; unfold wrap64; omega
  have p1 : ((l.length : Int) < (N2 : Int)) = True := eq_true (by have := hN2.out; omega); have p2 : ((N1 : Int) < (N2 : Int)) = True := eq_true (by have := hN1.out; have := hN2.out; omega); have p3 : (0 ≤ (N1 : Int)) = True := eq_true (by omega); refine pX HT_ 0 (some 45) ?_; refine pX HT_ 1 (some 46) ?_; refine pX HT_ 2 (some 47) ?_; refine pX HT_ 3 (some 48) ?_; refine pX HT_ 4 (some 49) ?_; refine pX HT_ 5 (some 50) ?_; refine pX HT_ 6 (some 51) ?_; refine pX HT_ 7 (some 52) ?_; refine pX HT_ 8 (some 53) ?_; refine pX HT_ 9 (some 54) ?_; refine pX HT_ 10 (some 55) ?_; refine pX HT_ 11 (some 56) ?_; refine pX HT_ 12 (some 57) ?_; refine tX HT_ HW_ hHeld 13 (some 58) ?_; refine oX HT_ 14 (some 59) (fun K hK => ?_); refine hX Tryd.func27 #[.slice (some ad) l.length c3, .slice A l.length c] ?_; refine (ST.out w7 hbd.out).mono ?_; rintro e w8 ⟨rfl, hb9⟩; refine ⟨_, rfl, ?_⟩; have hb10 := Lib.hid (hbd.out.trans (hb9.mono hbd.out.size)); refine hK.out _ _ ⟨(blk_cell (blk_below Zc.out hb10.out) 0).trans rfl, pw_cell_below hb10.out x1, pw_cell_below hb10.out x2⟩ (fun hHeld => ?_); clear hK K; refine nX (some 59) ?_; clear hb9 k0 k1 k2 hbd ST; refine pX HT_ 15 (some 60) ?_; refine pX HT_ 16 (some 61) ?_; refine pX HT_ 17 (some 62) ?_; refine pX HT_ 18 (some 63) ?_; refine pX HT_ 19 (some 64) ?_; refine pX HT_ 20 (some 65) ?_; refine pX HT_ 21 (some 66) ?_; refine tX HT_ HW_ hHeld 22 (some 67) ?_; refine pX HT_ 23 (some 68) ?_; refine pX HT_ 24 (some 69) ?_; refine pX HT_ 25 (some 70) ?_; refine pX HT_ 26 (some 71) ?_; refine pX HT_ 27 (some 72) ?_; refine pX HT_ 28 (some 73) ?_; refine pX HT_ 29 (some 74) ?_; refine pX HT_ 30 (some 75) ?_; refine tX HT_ HW_ hHeld 31 (some 76) ?_; refine pX HT_ 32 (some 77) ?_; refine pX HT_ 33 (some 78) ?_; refine done_ (done_of HT_.out (by kernel_rfl)) ?_; clear hHeld HT_ HW_ p1 p2 p3 q1 q2 q3 q4 hw1 x1 x2 HCl
  by_cases he : eT = 0
  ·subst he
   obtain ⟨hpf, h20⟩ := hF.out rfl; have PD := Lib.hid (fun (W : World) => types_ParseDesc.calls S l b d nm 0 W hpf); clear hF hpf; have HB8 : Hid (Below g0 w w8) := Lib.hid (HBc.out.trans (hb10.out.mono (Nat.le_of_lt hsc))); have Z8 : Hid (w8.heap[g0]? = some (.cells #[.slice A l.length c, .bool b, .int .i64 d, .string nm] 43 (0, 0))) := Lib.hid (blk_below Zc.out hb10.out); have HC8 := Lib.hid (Kd.C_below HCc.out hb10.out); have hs8 : g0 < w8.heap.size := Nat.lt_of_lt_of_le hsc hb10.out.size; clear hb10 Zc HCc HBc hsc
   go_upto_region 12 with (go_at_call 28; refine (PD.out _).mono ?_; rintro e w9 ⟨v0, rfl, hR9, hb9⟩; obtain ⟨A9, c9, rfl⟩ := Kd.R_slice hR9; replace hR9 := Lib.hid hR9; replace hb9 := Lib.hid hb9)
   have hs9 := hb9.out.size; have Za : Hid ((w9.alloc (.cells #[.slice A9 l.length c9, .bool b, .int .i64 d, .string nm] 43)).heap[w9.heap.size]? = some (.cells #[.slice A9 l.length c9, .bool b, .int .i64 d, .string nm] 43 (0, 0))) := Lib.hid (heap_alloc_new w9 _); have Hb10 : Hid (Below w8.heap.size w8 (w9.alloc (.cells #[.slice A9 l.length c9, .bool b, .int .i64 d, .string nm] 43))) := Lib.hid (hb9.out.alloc hs9 _); have HRa : Hid (Kd.R k41 41 (w9.alloc (.cells #[.slice A9 l.length c9, .bool b, .int .i64 d, .string nm] 43)) w8.heap.size (fun _ => True) (.slice A9 l.length c9) l) := Lib.hid (Kd.R_alloc hR9.out _)
   have hpa : Hid (∀ k, (Value.slice A9 l.length c9).ownBlock = some k → w8.heap.size ≤ k ∧ k < w9.heap.size) := Lib.hid (fun k hk => by
    obtain ⟨_, inner, ho, _⟩ := hR9.out
    exact ho.lt k hk)
   have hsz : (w9.alloc (.cells #[.slice A9 l.length c9, .bool b, .int .i64 d, .string nm] 43)).heap.size = w9.heap.size + 1 := World.size_alloc _ _; clear hR9 hb9; generalize w9.alloc (.cells #[.slice A9 l.length c9, .bool b, .int .i64 d, .string nm] 43) = w10 at *; generalize w9.heap.size = ga at *; replace hsz := Lib.hid hsz
   go_upto_region 13 with (go_at_call 28; refine (PD.out _).mono ?_; rintro e w11 ⟨v1, rfl, hR11, hb11⟩; obtain ⟨A11, c11, rfl⟩ := Kd.R_slice hR11; replace hR11 := Lib.hid hR11; replace hb11 := Lib.hid hb11)
   clear PD; have hs11 := hb11.out.size; have Zb : Hid ((w11.alloc (.cells #[.slice A11 l.length c11, .bool b, .int .i64 d, .string nm] 43)).heap[w11.heap.size]? = some (.cells #[.slice A11 l.length c11, .bool b, .int .i64 d, .string nm] 43 (0, 0))) := Lib.hid (heap_alloc_new w11 _); have Hb12 : Hid (Below w10.heap.size w10 (w11.alloc (.cells #[.slice A11 l.length c11, .bool b, .int .i64 d, .string nm] 43))) := Lib.hid (hb11.out.alloc hs11 _); have HRb : Hid (Kd.R k41 41 (w11.alloc (.cells #[.slice A11 l.length c11, .bool b, .int .i64 d, .string nm] 43)) w10.heap.size (fun _ => True) (.slice A11 l.length c11) l) := Lib.hid (Kd.R_alloc hR11.out _)
   have hpb : Hid (∀ k, (Value.slice A11 l.length c11).ownBlock = some k → w10.heap.size ≤ k ∧ k < w11.heap.size) := Lib.hid (fun k hk => by
    obtain ⟨_, inner, ho, _⟩ := hR11.out
    exact ho.lt k hk)
   clear hR11 hb11; generalize hw12 : w11.alloc (.cells #[.slice A11 l.length c11, .bool b, .int .i64 d, .string nm] 43) = w12 at *; have hsz2 : Hid (w12.heap.size = w11.heap.size + 1) := Lib.hid (by rw [← hw12]; exact World.size_alloc _ _); clear hw12; generalize w11.heap.size = gb at *; have hga : Hid (w8.heap.size ≤ ga ∧ ga < w10.heap.size ∧ w10.heap.size ≤ gb ∧ gb < w12.heap.size) := Lib.hid ⟨hs9, by have := hsz.out; omega, hs11, by have := hsz2.out; omega⟩; clear hs9 hs11 hsz hsz2; have Za2 := Lib.hid (blk_below Za.out Hb12.out); have HRa2 := Lib.hid (Kd.R_below HRa.out Hb12.out); have H8 : Hid (Below w8.heap.size w8 w12) := Lib.hid (Hb10.out.trans (Hb12.out.mono Hb10.out.size)); have Z12 := Lib.hid (blk_below Z8.out H8.out); have HC12 := Lib.hid (Kd.C_below HC8.out H8.out); have H12 : Hid (Below g0 w w12) := Lib.hid (HB8.out.trans (H8.out.mono (Nat.le_of_lt hs8))); clear Za HRa Hb10 Hb12; have hca := (Kd.R_reads' HRa2.out).2.1; have hcb := (Kd.R_reads' HRb.out).2.1; have hSDf := Lib.hid (samedesc_f l b d nm (by omega)); have SDa := Lib.hid (fun (W : World) (hb : Below w12.heap.size w12 W) => arbiterref02_SameDesc.calls (l.length + 1) A9 c9 l b d nm A c l b d nm true W (Kd.C_below (Kd.R_reads' HRa2.out).2.2 hb) hca (Kd.C_below HC12.out hb) hc (samedesc_f l b d nm (by omega))); have SDb := Lib.hid (fun (W : World) (hb : Below w12.heap.size w12 W) => arbiterref02_SameDesc.calls (l.length + 1) A11 c11 l b d nm A c l b d nm true W (Kd.C_below (Kd.R_reads' HRb.out).2.2 hb) hcb (Kd.C_below HC12.out hb) hc (samedesc_f l b d nm (by omega))); have a0 : w12.cell? ⟨ga, 0, none⟩ = some (.slice A9 l.length c9) := (blk_cell Za2.out 0).trans rfl; have a1 : w12.cell? ⟨ga, 1, none⟩ = some (.bool b) := (blk_cell Za2.out 1).trans rfl; have a2 : w12.cell? ⟨ga, 2, none⟩ = some (.int .i64 d) := (blk_cell Za2.out 2).trans rfl; have a3 : w12.cell? ⟨ga, 3, none⟩ = some (.string nm) := (blk_cell Za2.out 3).trans rfl; have k0 : w12.cell? ⟨g0, 0, none⟩ = some (.slice A l.length c) := (blk_cell Z12.out 0).trans rfl; have k1 : w12.cell? ⟨g0, 1, none⟩ = some (.bool b) := (blk_cell Z12.out 1).trans rfl; have k2 : w12.cell? ⟨g0, 2, none⟩ = some (.int .i64 d) := (blk_cell Z12.out 2).trans rfl; have k3 : w12.cell? ⟨g0, 3, none⟩ = some (.string nm) := (blk_cell Z12.out 3).trans rfl
   go_upto_region 15 with (first
    | (go_at_call 29; refine (SDa.out w12 (Below.refl _ _)).mono ?_; rintro e w13 ⟨rfl, hb13⟩; clear SDa; replace hb13 := Lib.hid hb13; have m0 : w13.cell? ⟨gb, 0, none⟩ = some (.slice A11 l.length c11) := (blk_cell (blk_below Zb.out hb13.out) 0).trans rfl; have m1 : w13.cell? ⟨gb, 1, none⟩ = some (.bool b) := (blk_cell (blk_below Zb.out hb13.out) 1).trans rfl; have m2 : w13.cell? ⟨gb, 2, none⟩ = some (.int .i64 d) := (blk_cell (blk_below Zb.out hb13.out) 2).trans rfl; have m3 : w13.cell? ⟨gb, 3, none⟩ = some (.string nm) := (blk_cell (blk_below Zb.out hb13.out) 3).trans rfl; have n0 : w13.cell? ⟨g0, 0, none⟩ = some (.slice A l.length c) := (blk_cell (blk_below Z12.out hb13.out) 0).trans rfl; have n1 : w13.cell? ⟨g0, 1, none⟩ = some (.bool b) := (blk_cell (blk_below Z12.out hb13.out) 1).trans rfl; have n2 : w13.cell? ⟨g0, 2, none⟩ = some (.int .i64 d) := (blk_cell (blk_below Z12.out hb13.out) 2).trans rfl; have n3 : w13.cell? ⟨g0, 3, none⟩ = some (.string nm) := (blk_cell (blk_below Z12.out hb13.out) 3).trans rfl)
    | (go_at_call 29; refine (SDb.out w13 hb13.out).mono ?_; rintro e w14 ⟨rfl, hb14⟩))
   have hb15 := Lib.hid (hb13.out.trans (hb14.mono hb13.out.size)); clear hb14 hb13 SDb a0 a1 a2 a3 k0 k1 k2 k3 m0 m1 m2 m3 n0 n1 n2 n3; have Za3 := Lib.hid (blk_below Za2.out hb15.out); have Zb3 := Lib.hid (blk_below Zb.out hb15.out); have HRb3 := Lib.hid (Kd.R_below HRb.out hb15.out); have H14 : Hid (Below w8.heap.size w8 w14) := Lib.hid (H8.out.trans (hb15.out.mono H8.out.size)); have hs14 := hb15.out.size
   have own0 : Hid (∃ ys, w14.ownsRow w8.heap.size 41 2 (.slice A9 l.length c9) l.length ys) := Lib.hid (by
    obtain ⟨_, inner, ho, _⟩ := Kd.R_below HRa2.out hb15.out
    exact ⟨inner, ho⟩)
   clear Z12 HC12 H12 H8 HRa2 HRb Za2 Zb hb15 hca; have hgan : Hid (some ga ≠ (Value.slice A9 l.length c9).ownBlock) := Lib.hid (fun h => by have := (hpa.out _ h.symm).2; omega); have hgbn : Hid (some gb ≠ (Value.slice A9 l.length c9).ownBlock) := Lib.hid (fun h => by have := (hpa.out _ h.symm).2; have := hga.out; omega); have hrow : Hid (∀ k, (Value.slice A9 l.length c9).ownBlock = some k → some k ≠ (Value.slice A11 l.length c11).ownBlock) := Lib.hid (fun k hk h => by have := (hpa.out k hk).2; have := (hpb.out k h.symm).1; have := hga.out; omega); have hpa8 : Hid (∀ k, (Value.slice A9 l.length c9).ownBlock = some k → w8.heap.size ≤ k) := Lib.hid (fun k hk => (hpa.out k hk).1); have hgl : Hid (ga < w14.heap.size ∧ gb < w14.heap.size ∧ w8.heap.size ≤ w14.heap.size) := Lib.hid (by have := hga.out; omega); clear hpa hpb hga; go_wp2
   go_loopw [13] (fun i wr => ∃ j : Nat, j ≤ l.length ∧ i = .int .i64 j ∧ Hid (∃ ys, wr.ownsRow w8.heap.size 41 2 (.slice A9 l.length c9) l.length ys) ∧ Hid (w14.grownBy wr (Value.slice A9 l.length c9).ownBlock)) (fun i _ => l.length - (intOf i).toNat)
   case atStart => exact ⟨0, Nat.zero_le _, rfl, own0, Lib.hid (World.grownBy.refl _ _)⟩
   case round =>
    obtain ⟨j, hj, rfl, OW, G⟩ := hrel; clear own0; have q0 : wr.cell? ⟨ga, 0, none⟩ = some (.slice A9 l.length c9) := (blk_cell ((G.out.block ga hgl.out.1 hgan.out).trans Za3.out) 0).trans rfl
    by_cases hlt : j < l.length
    ·obtain ⟨ys, ho⟩ := OW.out
     obtain ⟨p, rfl⟩ : ∃ p, A9 = some ⟨p, 0, none⟩ := by
      rcases ho.2 with ⟨_, h0⟩ | ⟨g', cap', cur', hv, _⟩
      ·omega
      ·simp only [Value.slice.injEq] at hv
       exact ⟨g', hv.1⟩
     have hyl : ys.length = l.length * 2 := ho.1; have s1 := ho.stored (j * 2) (.int .i64 9); have s2 := s1.1.stored (j * 2 + 1) (.string ⟨#[120]⟩)
     obtain ⟨u0, hu0⟩ : ∃ u, ys[j * 2]? = some u := ⟨_, List.getElem?_eq_getElem (by omega)⟩
     obtain ⟨u1, hu1⟩ : ∃ u, ys[j * 2 + 1]? = some u := ⟨_, List.getElem?_eq_getElem (by omega)⟩
     have f0 : wr.cell? ⟨p, j * 2, none⟩ = some u0 := by have := ho.cells (g := p) rfl (j * 2) u0 hu0; rwa [add_at, Nat.zero_add] at this
     have f1 : wr.cell? ⟨p, j * 2 + 1, none⟩ = some u1 := by have := ho.cells (g := p) rfl (j * 2 + 1) u1 hu1; rwa [add_at, Nat.zero_add] at this
     have f2 := ho.frozenAt (j * 2); have f3 := ho.frozenAt (j * 2 + 1)
     have f4 : (wr.setCell ⟨p, j * 2, none⟩ (.int .i64 9)).cell? ⟨p, j * 2 + 1, none⟩ = some u1 := by
      have := s1.1.cells (g := p) rfl (j * 2 + 1) u1 (by rw [List.getElem?_set_ne (by omega)]; exact hu1)
      rwa [add_at, Nat.zero_add] at this
     have f5 := s1.1.frozenAt (j * 2 + 1); have OW2 : Hid (∃ ys, ((wr.setCell ⟨p, j * 2, none⟩ (.int .i64 9)).setCell ⟨p, j * 2 + 1, none⟩ (.string ⟨#[120]⟩)).ownsRow w8.heap.size 41 2 (.slice (some ⟨p, 0, none⟩) l.length c9) l.length ys) := Lib.hid ⟨_, s2.1⟩; have G2 : Hid (w14.grownBy ((wr.setCell ⟨p, j * 2, none⟩ (.int .i64 9)).setCell ⟨p, j * 2 + 1, none⟩ (.string ⟨#[120]⟩)) (Value.slice (some ⟨p, 0, none⟩) l.length c9).ownBlock) := Lib.hid ((G.out.trans s1.2).trans s2.2); clear s1 s2 ho hyl hu0 hu1 OW G; have r1 : ((j : Int) < (l.length : Int)) = True := eq_true (by omega); go_wp2
     exact ⟨⟨j + 1, by omega, by go_num, OW2, G2⟩, by simp [intOf]; omega⟩
    ·obtain rfl : j = l.length := by omega
     obtain ⟨ys, ho⟩ := OW.out
     obtain ⟨N3, hN3⟩ : ∃ N3, N3 = l.length + 3 := ⟨_, rfl⟩
     have ho2 : Hid ((wr.alloc (.cells eightC 41)).ownsRow w8.heap.size 41 2 (.slice A9 l.length c9) l.length ys) := Lib.hid (ho.alloc _); have hbk : Hid ((wr.alloc (.cells eightC 41)).heap[wr.heap.size]? = some (.cells eightC 41 (0, 0))) := Lib.hid (heap_alloc_new wr _); have hbs : Hid (w8.heap.size ≤ (wr.alloc (.cells eightC 41)).heap.size) := Lib.hid (by have := G.out.size; have := hgl.out; simp only [World.size_alloc]; omega); have G3 := Lib.hid (grown_alloc G.out (.cells eightC 41))
     have hw3 : wrap64 ((l.length : Int) + 3) = (N3 : Int) := by unfold wrap64; omega
     clear OW G ho
     go_upto_region 20 with (at_builtin; refine append3 w8.heap.size rfl (.tmp 122) (.tmp 126) 39 41 rfl Tryd.underlying39 infoT A9 c9 l.length N3 wr.heap.size ys rfl rfl hbk.out ho2.out hbs.out h20 hN3 ?_; intro A20 c20 w20 g20; replace G3 := Lib.hid (G3.out.trans g20); clear g20 hbk ho2 hbs q0)
     have HB20 : Hid (Below w8.heap.size w8 w20) := Lib.hid (H14.out.grown G3.out hgl.out.2.2 hpa8.out); have Zb20 : Hid (w20.heap[gb]? = some (.cells #[.slice A11 l.length c11, .bool b, .int .i64 d, .string nm] 43 (0, 0))) := Lib.hid ((G3.out.block gb hgl.out.2.1 hgbn.out).trans Zb3.out); have Z20 := Lib.hid (blk_below Z8.out HB20.out); have m0 : w20.cell? ⟨gb, 0, none⟩ = some (.slice A11 l.length c11) := (blk_cell Zb20.out 0).trans rfl; have m1 : w20.cell? ⟨gb, 1, none⟩ = some (.bool b) := (blk_cell Zb20.out 1).trans rfl; have m2 : w20.cell? ⟨gb, 2, none⟩ = some (.int .i64 d) := (blk_cell Zb20.out 2).trans rfl; have m3 : w20.cell? ⟨gb, 3, none⟩ = some (.string nm) := (blk_cell Zb20.out 3).trans rfl; have n0 : w20.cell? ⟨g0, 0, none⟩ = some (.slice A l.length c) := (blk_cell Z20.out 0).trans rfl; have n1 : w20.cell? ⟨g0, 1, none⟩ = some (.bool b) := (blk_cell Z20.out 1).trans rfl; have n2 : w20.cell? ⟨g0, 2, none⟩ = some (.int .i64 d) := (blk_cell Z20.out 2).trans rfl; have n3 : w20.cell? ⟨g0, 3, none⟩ = some (.string nm) := (blk_cell Z20.out 3).trans rfl; have SD := Lib.hid (arbiterref02_SameDesc.calls (l.length + 1) A11 c11 l b d nm A c l b d nm true w20 (Kd.R_reads' (Kd.R_grown2 HRb3.out rfl G3.out hrow.out)).2.2 hcb (Kd.C_below HC8.out HB20.out) hc hSDf.out); clear hN3; go_wp2_with (go_at_call 29; refine SD.out.mono ?_; rintro e w21 ⟨rfl, hb21⟩); go_ret; refine ⟨rfl, ?_⟩; rw [hgm]; have HE := HB20.out.trans (hb21.mono HB20.out.size)
     exact HB8.out.trans (HE.mono (Nat.le_of_lt hs8))
  ·have he1 : (eT != 0) = true := by simpa using he
   go_wp2; go_ret; refine ⟨rfl, ?_⟩; rw [hgm]
   exact HBc.out.trans (hb10.out.mono (Nat.le_of_lt hsc))
end Go.Proofs.YtajplppeijmfpaaDoor.Td

namespace Go.Proofs.YtajplppeijmfpaaDoor.RowC
open Go Go.RowKit Go.WideShapes Go.Deep Go.Proofs.YtajplppeijmfpaaDoorW.PrintWords Go.Proofs.YtajplppeijmfpaaDoorW.PrintLast Go.Proofs.YtajplppeijmfpaaDoorW.PrintMore Go.Proofs.YtajplppeijmfpaaDoor.Pt
set_option linter.unusedVariables false
set_option linter.unusedSimpArgs false
set_option maxRecDepth 100000
variable {H : Type} {enc : TypeId × Value → H} {w : World}
def Opens {H : Type} (enc : TypeId × Value → H) (w : World) (t : TypeId) {α : Type} (d : Kd α) : Prop :=
 ∀ (fuel : Nat) (cs : List Value) (x : DataW H × List MemPlace), DataW.trod enc Tryd.prog w 0 (fun _ => true) true fuel t cs = some x → ∃ a : α, d.K w a cs
theorem opens_int : Opens enc w 3 (Kd.int .i64) := fun fuel cs x h => by
 obtain ⟨n, rfl, _⟩ := DataW.trod_int Tryd.underlying3 h
 exact ⟨n, rfl⟩
theorem opens_bool : Opens enc w 4 Kd.bool := fun fuel cs x h => by
 obtain ⟨n, rfl, _⟩ := DataW.trod_bool Tryd.underlying4 h
 exact ⟨n, rfl⟩
theorem opens_string : Opens enc w 9 Kd.string := fun fuel cs x h => by
 obtain ⟨n, rfl, _⟩ := DataW.trod_string Tryd.underlying9 h
 exact ⟨n, rfl⟩
theorem opens_slice {α : Type} {d : Kd α} {t e : TypeId} (tag : Nat) (ht : Tryd.prog.underlying t = some (.slice e)) (he : Tryd.prog.cellsOf e = d.sz) (ho : Opens enc w e d) : Opens enc w t (Kd.slice tag d) := fun fuel cs x h => by
 rcases open_slice ht h with ⟨rfl, _⟩ | ⟨a, len, cap, m, n, D, Pl, rfl, _, hl, hm, hmm, _, hx⟩
 ·exact ⟨[], none, 0, rfl, Nat.le_refl _, Kd.C_nil _ _⟩
 ·have hmm : m = cap := by simpa using hmm
  have hel : ∀ i : Fin len, ∃ p : α, ∃ c : List Value, c.length = d.sz ∧ d.K w p c ∧ ∀ j u, c[j]? = some u → w.cell? (a.add (i.val * d.sz + j)) = some u := by
   intro i; obtain ⟨cs', h1, h2⟩ := hx i.val (by omega); obtain ⟨p, hp⟩ := ho _ _ _ h2; obtain ⟨_, h3, h4⟩ := World.cells?_some h1; rw [he] at h3 h4; refine ⟨p, cs', h3, hp, fun j u hj => ?_⟩
   have hjl : j < d.sz := by
    rcases Nat.lt_or_ge j d.sz with h | h
    ·exact h
    ·rw [List.getElem?_eq_none (by omega)] at hj; cases hj
   have h5 := h4 j hjl; rw [hj] at h5; rw [← h5]; rw [Addr.add_add]
  let f : Fin len → α := fun i => Classical.choose (hel i)
  have hf : ∀ i : Fin len, ∃ c : List Value, c.length = d.sz ∧ d.K w (f i) c ∧ ∀ j u, c[j]? = some u → w.cell? (a.add (i.val * d.sz + j)) = some u := fun i => Classical.choose_spec (hel i); have hlen : (List.ofFn f).length = len := List.length_ofFn; refine ⟨List.ofFn f, some a, cap, by rw [hlen], by omega, ?_⟩; rw [hlen]; refine ⟨hlen, by unfold maxLen at hm; omega, fun h0 => ⟨a, rfl, fun j p hj => ?_⟩⟩
  have hjl : j < len := by
   rcases Nat.lt_or_ge j len with h | h
   ·exact h
   ·rw [List.getElem?_eq_none (by omega)] at hj; cases hj
  rw [List.getElem?_eq_getElem (by omega), List.getElem_ofFn] at hj; obtain rfl := Option.some.inj hj
  exact hf ⟨j, hjl⟩
theorem cut (cs : List Value) (o n : Nat) : cs.drop o = (cs.drop o).take n ++ cs.drop (o + n) := by
 rw [← List.drop_drop, List.take_append_drop]
theorem field {n : Nat} {fs : Array Field} {cs : List Value} {xs : List (DataW H × List MemPlace)} (hlen : xs.length = fs.size)
  (hf : ∀ (i : Nat) (f : Field), fs[i]? = some f → DataW.trod enc Tryd.prog w 0 (fun _ => true) true n f.type ((cs.drop f.offset).take (Tryd.prog.cellsOf f.type)) = xs[i]?) {α : Type} {d : Kd α} (i : Nat) (f : Field) (hi : fs[i]? = some f) (ho : Opens enc w f.type d) (k : Nat) (hk : Tryd.prog.cellsOf f.type = k) :
  ∃ a : α, d.K w a ((cs.drop f.offset).take k) := by
 have hl : i < fs.size := by
  rcases Nat.lt_or_ge i fs.size with h | h
  ·exact h
  ·rw [Array.getElem?_eq_none h] at hi; cases hi
 have h := hf i f hi; rw [hk, List.getElem?_eq_getElem (by omega)] at h
 exact ho _ _ _ h
theorem opens_Type : Opens enc w 41 k41 := fun fuel cs x h => by
 obtain ⟨xs, n, _, _, hl, hlen, hf⟩ := DataW.trod_struct Tryd.underlying41 h; rw [show Tryd.prog.cellsOf 41 = 2 by kernel_rfl] at hl; obtain ⟨a0, e0⟩ := field hlen hf 0 _ rfl opens_int 1 (by kernel_rfl); obtain ⟨a1, e1⟩ := field hlen hf 1 _ rfl opens_string 1 (by kernel_rfl); refine ⟨⟨a0, a1⟩, _, _, cut cs 0 1, e0, ?_⟩; rw [List.take_of_length_le (by simp; omega)] at e1
 exact e1
end Go.Proofs.YtajplppeijmfpaaDoor.RowC
