/- The walks of flags.words and flags.text, arbiterref03.text. -/
import Derived.Test.YtmkjeojamhfgfaaFlWalk2
import Derived.Test.YtmkjeojamhfgfaaShelf
namespace Go.Proofs.Ytmkjeojamhfgfaa.Fl
open Go Go.RowKit
set_option maxHeartbeats 400000

def wordsV : Value := .agg #[.int .i64 1, .string ⟨wPublic.toArray⟩, .int .i64 2, .string ⟨wPrivate.toArray⟩, .int .i64 4, .string ⟨wProtected.toArray⟩, .int .i64 8, .string ⟨wStatic.toArray⟩,
  .int .i64 16, .string ⟨wFinal.toArray⟩, .int .i64 32, .string ⟨wSuper.toArray⟩, .int .i64 512, .string ⟨wInterface.toArray⟩, .int .i64 1024, .string ⟨wAbstract.toArray⟩]
theorem words_any (w : World) : Calls Try.prog 25 #[] w fun e w' => e = .returned wordsV ∧ Below w.heap.size w w' := by
  go_enter Try.func25, Try.ntmps25
  go_wp2
  exact bodyPost_ret (v := wordsV) (by simp [results, Try.results25, go_sem, wordsV, wPublic, wPrivate, wProtected, wStatic, wFinal, wSuper, wInterface, wAbstract]) rfl ⟨rfl, (Below.refl _ _).alloc (Nat.le_refl _) _⟩

theorem infoS : (Try.prog.info? 9).map (fun i => (i.zero, i.size, i.bytes)) = some (some (.string ⟨#[]⟩), 1, 16) := by kernel_rfl
def flagAt (k : Nat) : Int := (allWords.map (·.1)).getD k 0
def wordAt (k : Nat) : List UInt8 := (allWords.map (·.2)).getD k []
theorem index_words (k : Nat) (hk : k < 8) (w : World) : (Instr.index 42 wordsV (.int .i64 (k : Int))).run Try.prog w = .ok (.agg #[.int .i64 (flagAt k), .string ⟨(wordAt k).toArray⟩]) w := by
  have h8 : k = 0 ∨ k = 1 ∨ k = 2 ∨ k = 3 ∨ k = 4 ∨ k = 5 ∨ k = 6 ∨ k = 7 := by omega
  rcases h8 with rfl | rfl | rfl | rfl | rfl | rfl | rfl | rfl
  all_goals (show _ = _; kernel_rfl)
def strsL (l : List (List UInt8)) : List Value := l.map fun s => Value.string ⟨s.toArray⟩
/-- The words of f among the first k. -/
def wk (f : Int) (k : Nat) : List (List UInt8) := wordsOf f (allWords.take k)
theorem wk_len (f : Int) (k : Nat) : (wk f k).length ≤ 8 := by
  unfold wk wordsOf
  rw [List.length_map]
  refine Nat.le_trans (List.length_filter_le _ _) (Nat.le_trans (List.length_take_le' _ _) (by decide))
theorem wk_snoc (f : Int) (k : Nat) (hk : k < 8) : wk f (k + 1) = if band f (flagAt k) = 0 then wk f k else wk f k ++ [wordAt k] := by
  have h : allWords.take (k + 1) = allWords.take k ++ [(flagAt k, wordAt k)] := by
    match k, hk with
    | 0, _ => rfl
    | 1, _ => rfl
    | 2, _ => rfl
    | 3, _ => rfl
    | 4, _ => rfl
    | 5, _ => rfl
    | 6, _ => rfl
    | 7, _ => rfl
  unfold wk wordsOf
  rw [h, List.filter_append]
  by_cases hb : band f (flagAt k) = 0 <;> simp [hb]

theorem joinB_eq (l : List (List UInt8)) : joinB l = Lib.join l [32] := by
  match l with
  | [] => rfl
  | [a] => simp [joinB, Lib.join_one]
  | a :: b :: r =>
    rw [joinB, joinB_eq (b :: r), Lib.join_cons, Lib.join_cons]
    simp [Lib.joinTail]
theorem joinB_len (l : List (List UInt8)) (h : ∀ a ∈ l, a.length ≤ 10) : (joinB l).length ≤ 11 * l.length := by
  match l with
  | [] => simp [joinB]
  | [a] => have := h a (by simp); simp only [joinB, List.length_cons, List.length_nil]; omega
  | a :: b :: r =>
    have := joinB_len (b :: r) (fun x hx => h x (by simp [hx]))
    have h2 := h a (by simp)
    simp only [joinB, List.length_append, List.length_cons] at this ⊢
    omega
theorem wk_short (f : Int) (k : Nat) : ∀ a ∈ wk f k, a.length ≤ 10 := by
  intro a ha
  simp only [wk, wordsOf, List.mem_map, List.mem_filter] at ha
  obtain ⟨p, ⟨hp, _⟩, rfl⟩ := ha
  have hp := List.mem_of_mem_take hp
  have : ∀ q ∈ allWords, q.2.length ≤ 10 := by decide
  exact this p hp

theorem text_any (f among : Int) (w : World) :
    Calls Try.prog 21 #[.int .i64 f, .int .i64 among] w fun e w' => e = .returned (.tuple #[.string ⟨(text f among).1.toArray⟩, .int .i64 (text f among).2]) ∧ Below w.heap.size w w' := by
  go_enter Try.func21, Try.ntmps21
  go_wp2_with (go_at_call 25; refine (words_any _).mono ?_; rintro e w1 ⟨rfl, hb⟩)
  · go_ret2
    refine ⟨?_, Below.refl _ _⟩
    rw [text, if_pos (by simp_all [bandn])]
    rfl
  have hamong := Lib.hid (show bandn f among = 0 by simp_all [bandn])
  have hb' := Lib.hid hb
  clear hb
  go_loopw [6, 14] (fun v6 i wr => ∃ k : Nat, k ≤ 8 ∧ i = .int .i64 k ∧ wr.ownsRow w.heap.size 9 1 v6 (wk f k).length (strsL (wk f k)) ∧ Below w.heap.size w wr) (fun _ i _ => 8 - (intOf i).toNat)
  case atStart => exact ⟨0, Nat.zero_le _, rfl, World.ownsRow_nil _ _ _ _, hb'.out⟩
  case round =>
    obtain ⟨k, hk, rfl, hown, hB⟩ := hrel
    have HO := Lib.hid hown
    have HB := Lib.hid hB
    have hsz := hB.size
    clear hown hB hb'
    by_cases hlt : k < 8
    · have hix := index_words k hlt
      have hsn := wk_snoc f k hlt
      have hlen := wk_len f k
      generalize flagAt k = fl at *
      generalize wordAt k = wd at *
      generalize wk f k = xs at *
      replace hsn := Lib.hid hsn
      go_wp2_with (at_builtin; go_loud (refine append1 w.heap.size rfl _ _ _ 9 (.string ⟨#[]⟩) 1 16 rfl Try.underlying38 infoS rfl (by decide) _ _ _ [.string ⟨wd.toArray⟩] rfl _ (by simp) rfl rfl (by simp [Value.oneCell']) (HO.out.alloc _) (by simp; omega) (by omega) (by omega) ?_); intro v1 w1 hown1 hg1)
      · have hown2 : w1.ownsRow w.heap.size 9 1 v1 (xs ++ [wd]).length (strsL (xs ++ [wd])) := by simpa [strsL] using hown1
        go_roundw
        case rel => exact ⟨k + 1, by omega, by go_num, by rw [hsn.out, if_neg (by simp_all [band])]; exact hown2, (HB.out.alloc (by omega) _).grown hg1 (by simp; omega) (own_base HO.out)⟩
        case measure => simp [intOf]; omega
      · go_roundw
        case rel => exact ⟨k + 1, by omega, by go_num, by rw [hsn.out, if_pos (by simp_all [band])]; exact HO.out.alloc _, HB.out.alloc (by omega) _⟩
        case measure => simp [intOf]; omega
    · obtain rfl : k = 8 := by omega
      have hmap : Lib.join (((wk f 8).map fun s => (⟨s.toArray⟩ : ByteArray)).map (·.data.toList)) (⟨#[32]⟩ : ByteArray).data.toList = joinB (wk f 8) := by
        rw [List.map_map]
        have : (fun x : ByteArray => x.data.toList) ∘ (fun s : List UInt8 => (⟨s.toArray⟩ : ByteArray)) = id := by funext s; rfl
        rw [this, List.map_id, joinB_eq]
      have hfin : text f among = (joinB (wk f 8), 0) := by
        rw [text, if_neg (by simp [hamong.out])]
        rfl
      have hjl := joinB_len (wk f 8) (wk_short f 8)
      have hlen := wk_len f 8
      rcases Nat.eq_zero_or_pos (wk f 8).length with h0 | hpos
      · obtain ⟨A, c, rfl⟩ := own_shape HO.out
        have hz : wk f 8 = [] := List.eq_nil_of_length_eq_zero h0
        rw [hz] at hfin
        clear hmap
        replace hfin := Lib.hid hfin
        rw [h0]
        clear hlt hamong hjl hlen hk h0 hz
        go_wp2_with (go_at_call 26; refine (Try.strings_Join_none _ _ _ _).mono ?_; rintro e w2 ⟨rfl, rfl⟩)
        go_ret2
        exact ⟨by rw [hfin.out]; rfl, HB.out⟩
      · obtain ⟨g, cap, rfl, hgb, hgl⟩ := HO.out.form hpos
        have hcap := own_cap HO.out
        have J := Try.strings_Join g 0 cap ((wk f 8).map fun s => (⟨s.toArray⟩ : ByteArray)) ⟨#[32]⟩ wr (fun j x hx => by
            rw [Nat.zero_add]
            refine own_cell HO.out j _ ?_
            simp only [List.getElem?_map, Option.map_eq_some_iff, strsL] at hx ⊢
            obtain ⟨a, ha, rfl⟩ := hx
            exact ⟨a, ha, rfl⟩) hgl (by simp; omega) (by simpa using hcap) (by
            rw [hmap]; omega)
        rw [List.length_map, hmap] at J
        clear hmap
        generalize joinB (wk f 8) = res at *
        replace J := Lib.hid J
        replace hfin := Lib.hid hfin
        clear hlt hamong hjl hlen hk hpos hcap
        go_wp2_with (go_at_call 26; refine J.out.mono ?_; rintro e w2 ⟨rfl, hb2⟩)
        go_ret2
        exact ⟨by rw [hfin.out]; rfl, HB.out.trans (hb2.mono hsz)⟩
end Go.Proofs.Ytmkjeojamhfgfaa.Fl
