/- NamesPlays: the walk. -/
import Derived.Test.YtpcdfjifhoofjaaDoorNmCuts
import Derived.Laws.AppendOwnNone
namespace Go.Proofs.YtpcdfjifhoofjaaDoor.Nm
open Go Go.RowKit
set_option linter.unusedVariables false
set_option linter.unusedSimpArgs false
set_option maxHeartbeats 1000000
set_option maxRecDepth 10000

/-- A row of texts behind any address. -/
def RdA (w : World) (ad : Addr) (l : List ByteArray) : Prop := ∀ j x, l[j]? = some x → w.cell? (ad.add j) = some (.string x)
theorem RdA.below {w w1 : World} {ad : Addr} {l : List ByteArray} (h : RdA w ad l) (hb : Below w.heap.size w w1) : RdA w1 ad l := fun j x hx => bl_cell hb (h j x hx)
/-- A list of texts that came in: nil, or a row in memory. -/
def StrArg (w : World) (A : Option Addr) (n c : Nat) (l : List ByteArray) : Prop :=
  n = l.length ∧ ((A = none ∧ c = 0 ∧ l = []) ∨ ∃ ad, A = some ad ∧ n ≤ c ∧ RdA w ad l)
theorem StrArg.below {w w1 : World} {A : Option Addr} {n c : Nat} {l : List ByteArray} (h : StrArg w A n c l) (hb : Below w.heap.size w w1) : StrArg w1 A n c l := by
  obtain ⟨h1, h2⟩ := h
  refine ⟨h1, ?_⟩
  rcases h2 with h2 | ⟨ad, h2, h3, h5⟩
  · exact .inl h2
  · exact .inr ⟨ad, h2, h3, h5.below hb⟩
theorem add_at (b o j : Nat) : (⟨b, o, none⟩ : Addr).add j = ⟨b, o + j, none⟩ := by unfold Addr.add; split <;> simp_all
theorem RdA.spot {w : World} {ad : Addr} {l : List ByteArray} (h : RdA w ad l) (h0 : l ≠ []) : ∃ b o, ad = ⟨b, o, none⟩ ∧ b < w.heap.size ∧ RdS w b o l := by
  obtain ⟨b, o, sp⟩ := ad
  have hpos := List.length_pos_iff.2 h0
  have hc := h 0 l[0] (List.getElem?_eq_getElem hpos)
  have hs : sp = none := by
    have := World.cell?_spot hc
    simpa [Addr.add] using this
  subst hs
  refine ⟨b, o, rfl, ?_, fun j x hx => by have := h j x hx; rwa [add_at] at this⟩
  rw [add_at] at hc
  exact World.block_lt_of_cell? w _ hc
theorem RdS.any {w : World} {b o : Nat} {l : List ByteArray} (h : RdS w b o l) : RdA w ⟨b, o, none⟩ l := fun j x hx => by rw [add_at]; exact h j x hx
/-- append([]string{}, l...) -/
theorem append_strs {P : Program} {ops : Array Oper} {rest : List Oper} {o : Oper} {a : Act} {Q : Exit → Act → World → Prop} {W : World} (base : Nat) (hgd : o.guard = none) (s x : Operand) (t e : TypeId)
    (ho : o.op = .call { callee := .builtin .append, args := #[s, x], argTypes := #[t, t] })
    (ht : P.underlying t = some (.slice e)) (hinfo : (P.info? e).map (fun i => (i.zero, i.size, i.bytes)) = some (some (.string ⟨#[]⟩), 1, 16))
    (v : Value) (xs l : List ByteArray) (hs : a.eval s = v) (ad : Addr) (c : Nat) (n : Nat) (hx : a.eval x = .slice (some ad) n c) (hn : n = l.length) (hr : RdA W ad l)
    (HO : W.ownsRow base e 1 v xs.length (strL xs)) (hbase : base ≤ W.heap.size) (hl : (xs.length + n) * 16 ≤ 140737488355328)
    (h : ∀ v1 w1, w1.ownsRow base e 1 v1 (xs ++ l).length (strL (xs ++ l)) → W.grownBy w1 v.ownBlock → wpList P ops Q rest (a.put o.dst v1) w1) :
    wpList P ops Q (o :: rest) a W := by
  obtain ⟨i0, hi, hzz⟩ := Option.map_eq_some_iff.1 hinfo
  simp only [Prod.mk.injEq] at hzz
  obtain ⟨hz0, hz1, hz2⟩ := hzz
  subst hn
  refine wpList_append_own W hgd s x t ho base e i0 _ 1 16 ht hi hz0 hz1 hz2 rfl (by decide) v xs.length (strL xs) hs HO ad l.length c (strL l) hx (by simp [strL]) ?_ ?_ (by simp only [maxLen]; omega) hl hbase ?_
  · intro j u hu
    simp only [strL, List.getElem?_map, Option.map_eq_some_iff] at hu
    obtain ⟨y, hy, rfl⟩ := hu
    exact hr j y hy
  · intro u hu
    simp only [strL, List.mem_map] at hu
    obtain ⟨y, _, rfl⟩ := hu
    rfl
  · intro v1 w1 hown hg _
    refine h v1 w1 ?_ hg
    rw [List.length_append, show strL (xs ++ l) = strL xs ++ strL l by simp [strL]]
    exact hown
theorem strArg_own {w : World} {base : Nat} {e : TypeId} {v : Value} {l : List ByteArray} (h : w.ownsRow base e 1 v l.length (strL l)) : ∃ A c, v = .slice A l.length c ∧ StrArg w A l.length c l := by
  rcases h.2 with ⟨rfl, hn⟩ | ⟨g, cap, cur, rfl, _, hg, hcap, _⟩
  · have : l = [] := List.eq_nil_of_length_eq_zero hn
    subst this
    exact ⟨none, 0, rfl, rfl, .inl ⟨rfl, rfl, rfl⟩⟩
  · exact ⟨_, _, rfl, rfl, .inr ⟨_, rfl, hcap, (RdS_own h).any⟩⟩

theorem joinAny (A : Option Addr) (n c : Nat) (l : List ByteArray) (hl : sumL l ≤ 1099511627776) (w : World) (h : StrArg w A n c l) :
    Calls Tryd.prog 20 #[.slice A n c] w fun e w' => e = .returned (.tuple #[.string ⟨(joinP l).1.toArray⟩, .int .i64 (joinP l).2]) ∧ Below w.heap.size w w' := by
  obtain ⟨rfl, h2⟩ := h
  by_cases h0 : l = []
  · subst h0; exact join_none A c w
  · rcases h2 with ⟨_, _, h2⟩ | ⟨ad, rfl, h3, h5⟩
    · exact absurd h2 h0
    · obtain ⟨b, o, rfl, h4, h6⟩ := h5.spot h0
      exact join_any l hl h0 b o c h3 w h4 h6
theorem rjoin_none (A : Option Addr) (c : Nat) (w : World) : Calls Tryd.prog 21 #[.slice A 0 c] w fun e w' => e = .returned (.tuple #[.string ⟨(joinP []).1.toArray⟩, .int .i64 (joinP []).2]) ∧ w' = w := by
  go_enter Tryd.func21, Tryd.ntmps21
  go_wp2
  go_loop [4, 5] (fun sz i => sz = .int .i64 0 ∧ i = .int .i64 0) (fun _ i => 0)
  case atStart => exact ⟨rfl, rfl⟩
  case round =>
    obtain ⟨rfl, rfl⟩ := hrel
    go_wp2
    go_ret2
    exact ⟨rfl, rfl⟩
theorem rjoinAny (A : Option Addr) (n c : Nat) (l : List ByteArray) (hl : sumL l ≤ 1099511627776) (w : World) (h : StrArg w A n c l) :
    Calls Tryd.prog 21 #[.slice A n c] w fun e w' => e = .returned (.tuple #[.string ⟨(joinP l).1.toArray⟩, .int .i64 (joinP l).2]) ∧ w' = w := by
  obtain ⟨rfl, h2⟩ := h
  by_cases h0 : l = []
  · subst h0; exact rjoin_none A c w
  · rcases h2 with ⟨_, _, h2⟩ | ⟨ad, rfl, h3, h5⟩
    · exact absurd h2 h0
    · obtain ⟨b, o, rfl, h4, h6⟩ := h5.spot h0
      exact rjoin_any l hl b o c w h6

theorem namesPlays_any (a b : ByteArray) (A : Option Addr) (n c : Nat) (l : List ByteArray) (ha : a.size ≤ 1048576) (hb : b.size ≤ 1048576) (hl : sumL l ≤ 4194304) (w : World) (hp : StrArg w A n c l) (hm : ML w) :
    Calls Tryd.prog 8 #[.string a, .string b, .slice A n c] w fun e w' => e = .returned (.bool true) ∧ Below w.heap.size w w' := by
  have st : Stt w w := ⟨hm, Below.refl _ _⟩
  have AW := Lib.hid (awake_any w hm)
  have V : Hid (∀ W, ML W → _) := Lib.hid (fun W h => valid_any a W h)
  have RV : Hid (∀ W, _) := Lib.hid (fun W => rvalid_any a W)
  have M : Hid (∀ W, _) := Lib.hid (fun W => member_any a W)
  have RM : Hid (∀ W, _) := Lib.hid (fun W => rmember_any a W)
  have K : Hid (∀ W, _) := Lib.hid (fun W => package_any a (by omega) W)
  have RK : Hid (∀ W, _) := Lib.hid (fun W => rpackage_any a (by omega) W)
  have SI : Hid (∀ W, _) := Lib.hid (fun W => simple_any a (by omega) W)
  have RSI : Hid (∀ W, _) := Lib.hid (fun W => rsimple_any a (by omega) W)
  have PA : Hid (∀ W, ML W → _) := Lib.hid (fun W h => parts_any a (by omega) W h)
  have RP : Hid (∀ W, _) := Lib.hid (fun W => rparts_any a (by omega) W)
  have C : Hid (∀ W, ML W → _) := Lib.hid (fun W h => compare_any a b (by omega) (by omega) W h)
  have RC : Hid (∀ W, _) := Lib.hid (fun W => rcompare_any a b (by omega) (by omega) W)
  have hle := partsB_le a
  have hp0 : Hid (StrArg w A n c l) := hp
  clear hm hp
  go_enter Tryd.func8, Tryd.ntmps8
  go_wp2_with (first
    | (go_at_call 13; refine AW.out.mono ?_; rintro e w1 ⟨rfl, hb1⟩; replace st := st.step hb1; clear hb1)
    | (go_at_call 15; refine (V.out _ st.ml).mono ?_; rintro e w2 ⟨rfl, hb1⟩; replace st := st.step hb1; clear hb1)
    | (go_at_call 36; refine (RV.out _).mono ?_; rintro e w3 ⟨rfl, hb1⟩; replace st := st.step hb1; clear hb1)
    | (go_at_call 14; refine (M.out _).mono ?_; rintro e w2 ⟨rfl, rfl⟩)
    | (go_at_call 37; refine (RM.out _).mono ?_; rintro e w2 ⟨rfl, rfl⟩)
    | (go_at_call 16; refine (K.out _).mono ?_; rintro e w2 ⟨rfl, rfl⟩)
    | (go_at_call 38; refine (RK.out _).mono ?_; rintro e w2 ⟨rfl, rfl⟩)
    | (go_at_call 18; refine (SI.out _).mono ?_; rintro e w2 ⟨rfl, rfl⟩)
    | (go_at_call 39; refine (RSI.out _).mono ?_; rintro e w2 ⟨rfl, rfl⟩))
  refine (PA.out _ st.ml).mono ?_
  rintro e w3 ⟨rfl, hw3⟩
  have hr3 : Hid (RdS w3 w2.heap.size 0 (partsB a)) := by show RdS _ _ _ _; rw [hw3]; exact RdS.new _ _ _
  replace st : Stt w w3 := st.step (by rw [hw3]; exact (Below.refl _ _).alloc (Nat.le_refl _) _)
  clear hw3
  generalize w2.heap.size = g at *
  go_wp2_with fail
  refine (RP.out _).mono ?_
  rintro e w4 ⟨⟨g4, cap4, rfl, hown⟩, hb4⟩
  have hr4 := Lib.hid (RdS_own hown)
  replace hr3 := Lib.hid (hr3.out.below hb4)
  replace st := st.step hb4
  clear hb4 hown
  have ST := sameTexts_any (partsB a) (partsB a) (by omega) g 0 (partsB a).length g4 0 cap4 w4 hr3.out hr4.out
  rw [decide_eq_true rfl] at ST
  replace ST := Lib.hid ST
  clear hr3 hr4
  go_wp2_with fail
  refine ST.out.mono ?_
  clear ST
  rintro e w5 ⟨rfl, hb5⟩
  replace st := st.step hb5
  clear hb5
  go_wp2_with fail
  refine (C.out _ st.ml).mono ?_
  rintro e w6 ⟨rfl, hb6⟩
  replace st := st.step hb6
  clear hb6
  go_wp2_with fail
  refine (RC.out _).mono ?_
  rintro e w7 ⟨rfl, hb7⟩
  replace st := st.step hb7
  clear hb7
  have hp := hp0.out.below st.bl
  obtain ⟨hn, hp'⟩ := hp
  have hlen : l.length ≤ sumL l := by
    clear hl hp0 hn hp'
    induction l with
    | nil => simp [sumL]
    | cons a l ih => simp only [sumL, List.map_cons, List.sum_cons, List.length_cons] at ih ⊢; omega
  have J : Hid (∀ A c W, StrArg W A l.length c l → _) := Lib.hid (fun A c W h => joinAny A l.length c l (by omega) W h)
  have RJ : Hid (∀ A c W, StrArg W A l.length c l → _) := Lib.hid (fun A c W h => rjoinAny A l.length c l (by omega) W h)
  generalize hjp : joinP l = jp at *
  obtain ⟨j1, j2⟩ := jp
  clear hjp
  have hmade : (w7.alloc (.cells #[] 9)).ownsRow w7.heap.size 9 1 (.slice (some ⟨w7.heap.size, 0, none⟩) 0 0) 0 (strL []) := World.ownsRow_made w7 #[] 0 (Nat.le_refl _) (by decide) (by simp)
  replace hmade := Lib.hid hmade
  rcases hp' with ⟨rfl, rfl, rfl⟩ | ⟨ad, rfl, hc3, hrd⟩
  · simp only [List.length_nil] at hn J RJ
    subst hn
    obtain ⟨i0, hi, hzz⟩ := Option.map_eq_some_iff.1 strsT
    go_wp2_with (at_builtin; go_loud (refine wpList_append_own_none rfl _ _ _ rfl w7.heap.size 9 i0 1 Tryd.underlying25 hi _ 0 (strL []) rfl (by exact hmade.out) rfl ?_))
    refine (J.out _ _ _ ⟨rfl, .inr ⟨_, rfl, Nat.le_refl _, fun j x h => by simp at h⟩⟩).mono ?_
    rintro e w9 ⟨rfl, hb9⟩
    replace st := (st.step ((Below.refl _ _).alloc (Nat.le_refl _) _)).step hb9
    clear hb9
    go_wp2_with fail
    refine (RJ.out _ _ _ ⟨rfl, .inl ⟨rfl, rfl, rfl⟩⟩).mono ?_
    rintro e w10 ⟨rfl, rfl⟩
    go_wp2
    go_ret
    exact ⟨rfl, st.bl⟩
  · replace hrd := Lib.hid hrd
    replace hn := Lib.hid hn
    go_wp2_with (at_builtin; go_loud (refine append_strs w7.heap.size rfl _ _ _ 9 rfl Tryd.underlying25 strsT _ [] l rfl ad c n rfl hn.out (by exact (hrd.out.below ((Below.refl _ _).alloc (Nat.le_refl _) _))) (by exact hmade.out) (by simp) (by have := hn.out; simp; omega) ?_); intro v1 w8 hown8 hg8)
    rw [List.nil_append] at hown8
    obtain ⟨A8, c8, rfl, hS8⟩ := strArg_own hown8
    have hb8 : Below w7.heap.size w7 w8 := ((Below.refl _ _).alloc (Nat.le_refl _) _).grown hg8 (by simp) (own_base hmade.out)
    refine (J.out _ _ _ hS8).mono ?_
    clear hown8 hg8
    rintro e w9 ⟨rfl, hb9⟩
    have hS9 : StrArg w9 (some ad) l.length c l := ((show StrArg w7 (some ad) l.length c l from ⟨rfl, .inr ⟨ad, rfl, by have := hn.out; omega, hrd.out⟩⟩).below hb8).below hb9
    replace st := (st.step hb8).step hb9
    clear hb8 hb9 hS8
    obtain rfl := hn.out
    replace hn := True.intro
    go_wp2_with fail
    refine (RJ.out _ _ _ hS9).mono ?_
    rintro e w10 ⟨rfl, rfl⟩
    go_wp2
    go_ret
    exact ⟨rfl, st.bl⟩
end Go.Proofs.YtpcdfjifhoofjaaDoor.Nm
