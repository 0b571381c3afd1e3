/- TypesDescs holds for every input: it returns true, and the arguments read as they did. -/
import Derived.Test.YtajplppeijmfpaaDoorBdTyTypesDescs3
import Derived.Test.YtajplppeijmfpaaDoorCards
import Derived.Test.YtajplppeijmfpaaDoorTie
import Derived.Lib.SmallJoins
import Derived.ProofKit
import Derived.OpenShut
import Derived.ShutString
import Derived.ChangeOld
import Derived.Deep.DeepHandedRow
import Derived.SizedLaws
import Derived.Lib.LaidTab
namespace Go.Proofs.YtajplppeijmfpaaDoor.rowTypesDescs
open Go Go.ChangeShapes Go.WideShapes Go.ChangeAt Go.RowKit
open Go.ChangeMaps (open_string shut_string)
set_option linter.unusedVariables false
set_option linter.unusedSimpArgs false

theorem own : ownKnob Tryd.prog.godebug = none := by kernel_rfl
theorem laidOut : laidOutB Tryd.prog = true := by kernel_rfl
def cellOf : DataW Unit → Value
  | .lit (.int k n) => .int k n
  | _ => undef
def cells1 : DataW Unit → List Value
  | .agg l => l.map cellOf
  | _ => []
def layCells (cs : List Value) : Obj → Obj
  | .cells _ t frozen => .cells cs.toArray t frozen
  | o => o
def cells2 : DataW Unit → List Value
  | .agg l => l.flatMap cells1
  | _ => []

set_option maxRecDepth 100000 in
open Go.Deep Go.Proofs.YtajplppeijmfpaaDoorW.PrintWords Go.Proofs.YtajplppeijmfpaaDoorW.PrintLast Go.Proofs.YtajplppeijmfpaaDoorW.PrintMore Go.Proofs.YtajplppeijmfpaaDoor.Pt Go.Proofs.YtajplppeijmfpaaDoor.RowC in
/-- A descriptor that is handed in. -/
theorem open_desc {H : Type} {enc : TypeId × Value → H} {w : World} {base : Nat} {R : Reach} {v : Value} {d : DataW H} {p : List MemPlace} (hv : Value.okWide Tryd.prog w R base 43 v) (h : DataW.Trod enc Tryd.prog w 0 (fun _ => true) true 43 v d p) :
    ∃ (A : Option Addr) (c : Nat) (l : List S41) (b : Bool) (dd : Int) (nm : ByteArray), v = .agg #[.slice A l.length c, .bool b, .int .i64 dd, .string nm] ∧ l.length ≤ c ∧ Kd.C k41 w A l.length l ∧ ((∀ n ∈ d.weights Tryd.prog 43, n ≤ reachBytes) → l.length * 24 ≤ reachBytes) := by
  obtain ⟨cs, rfl, hsz⟩ := okWide_struct Tryd.underlying43 hv
  obtain ⟨c0, c1, c2, c3, rfl⟩ := Joins.array4 (hsz.trans (show Tryd.prog.cellsOf 43 = 4 by kernel_rfl))
  obtain ⟨fuel, hf⟩ := h
  obtain ⟨xs, n, _, hx, hl, hlen, hfs⟩ := DataW.trod_struct Tryd.underlying43 hf
  have hlen3 : xs.length = 3 := hlen
  obtain ⟨y0, y1, y2, rfl⟩ : ∃ y0 y1 y2, xs = [y0, y1, y2] := by
    match xs, hlen3 with
    | [a, b, c], _ => exact ⟨a, b, c, rfl⟩
  have g0 : ∀ k, Tryd.prog.cellsOf 39 = k → DataW.trod enc Tryd.prog w 0 (fun _ => true) true n 39 ([c0, c1, c2, c3].take k) = some y0 := fun k hk => by subst hk; exact hfs 0 _ rfl
  have g1 : ∀ k, Tryd.prog.cellsOf 4 = k → DataW.trod enc Tryd.prog w 0 (fun _ => true) true n 4 ([c1, c2, c3].take k) = some y1 := fun k hk => by subst hk; exact hfs 1 _ rfl
  have g2 : ∀ k, Tryd.prog.cellsOf 41 = k → DataW.trod enc Tryd.prog w 0 (fun _ => true) true n 41 ([c2, c3].take k) = some y2 := fun k hk => by subst hk; exact hfs 2 _ rfl
  have h0 : DataW.trod enc Tryd.prog w 0 (fun _ => true) true n 39 [c0] = some y0 := g0 1 (by kernel_rfl)
  have h1 : DataW.trod enc Tryd.prog w 0 (fun _ => true) true n 4 [c1] = some y1 := g1 1 (by kernel_rfl)
  have h2 : DataW.trod enc Tryd.prog w 0 (fun _ => true) true n 41 [c2, c3] = some y2 := g2 2 (by kernel_rfl)
  clear g0 g1 g2 hfs
  obtain ⟨l, A, c, e0, hc, hk⟩ := opens_slice 41 Tryd.underlying39 (by kernel_rfl) opens_Type _ _ _ h0
  obtain ⟨b, e1⟩ := opens_bool _ _ _ h1
  obtain ⟨t, e2⟩ := opens_Type _ _ _ h2
  replace e2 := k41_open e2
  replace e0 : [c0] = [Value.slice A l.length c] := e0
  replace e1 : [c1] = [Value.bool b] := e1
  simp only [List.cons.injEq, and_true] at e0 e1 e2
  obtain ⟨rfl, rfl⟩ := e2
  subst e0
  subst e1
  refine ⟨A, c, l, b, t.f0, t.f1, rfl, hc, hk, fun hw => ?_⟩
  simp only [Prod.mk.injEq] at hx
  obtain ⟨rfl, _⟩ := hx
  rcases open_slice Tryd.underlying39 h0 with ⟨hcs, _⟩ | ⟨a, len, cap, m, n', D, Pl, hcs, _, _, _, _, hx0, _⟩
  · simp only [List.cons.injEq, Value.slice.injEq, and_true] at hcs
    rw [hcs.2.1]
    exact Nat.zero_le _
  · simp only [List.cons.injEq, Value.slice.injEq, and_true] at hcs
    rw [hcs.2.1]
    have hmem : ((List.range len).length + (List.range (m - len)).length) * Tryd.prog.bytesOf 41 ∈ (DataW.agg ([y0, y1, y2].map (·.1))).weights Tryd.prog 43 := by
      rw [DataW.weights, Tryd.underlying43]
      refine DataW.weights_mem_each (j := 0) (t := 39) (d := y0.1) rfl rfl _ ?_
      rw [hx0, DataW.weights, Tryd.underlying39]
      simp
    have := hw _ hmem
    rw [show Tryd.prog.bytesOf 41 = 24 by kernel_rfl] at this
    simp only [List.length_range] at this
    omega

/-- A world for the witness: the two tables hold what they are laid as. -/
noncomputable def laidWorld (os : Os) : World :=
  { World.holding Tryd.prog os ⟨#[], #[], []⟩ with heap := ((World.holding Tryd.prog os ⟨#[], #[], []⟩).heap.modify 1 (layCells (cells1 Rows.laid_unicode_utf8_first))).modify 2 (layCells (cells2 Rows.laid_unicode_utf8_acceptRanges)) }
set_option maxRecDepth 100000 in
theorem laid_met (os : Os) : laidMet Tryd.prog Rows.typesDescsRow.laid ((laidWorld os).forCall (fun _ _ => 0) ⟨#[], #[.agg #[.slice none 0 0, .bool false, .int .i64 0, .string ⟨#[]⟩]], []⟩).memory :=
  laidMet_of_run' 8 (by kernel_rfl) (by kernel_rfl)
theorem reads (os : Os) {H : Type} (enc : TypeId × Value → H) : ∃ places, DataW.whole enc Tryd.prog ((laidWorld os).forCall (fun _ _ => 0) ⟨#[], #[.agg #[.slice none 0 0, .bool false, .int .i64 0, .string ⟨#[]⟩]], []⟩).memory Tryd.f6.params.toList Rows.typesDescsSpec.vars false (#[.agg #[.slice none 0 0, .bool false, .int .i64 0, .string ⟨#[]⟩]] : Array Value).toList 8 = some ([.agg [.nil, .lit (.bool false), .agg [.lit (.int .i64 0), .lit (.string [])]]], [], places) :=
  ⟨[], by kernel_rfl⟩
set_option maxHeartbeats 1000000 in
set_option maxRecDepth 100000 in
theorem lifted (os : Os) (started : os.Started) (H : Type) (enc : TypeId × Value → H) (F : Stop.Interp) :
    ReturnsInHanded {} Tryd.checked os 6 .any ((OpenSpec.ofChange Rows.typesDescsSpec).preRow enc Tryd.prog Tryd.f6 Rows.typesDescsRow.domain false Rows.typesDescsRow.laid) (((OpenSpec.ofChange Rows.typesDescsSpec).at F).post enc Tryd.prog Tryd.f6 false true false false) := by
  obtain ⟨places, hx⟩ := reads os enc
  refine returnsInHanded_of_row (C := Tryd.checked) (s := OpenSpec.ofChange Rows.typesDescsSpec) own started (by kernel_rfl) Tryd.func6
    (witness_row_at (enc := enc) (C := Tryd.checked) false (laidWorld os) #[.agg #[.slice none 0 0, .bool false, .int .i64 0, .string ⟨#[]⟩]] rfl (by kernel_rfl) (by kernel_rfl) (by kernel_rfl)
      (OpenSpec.preRow_of_cond 8 hx (by kernel_rfl) (fun k hk => by cases hk) (by kernel_rfl) (laid_met os))) ?_
  intro W base args ds gs before hval0 hW hcnd hcond hreach hL hshape _
  have hval : ∀ (j : Nat) t v, Tryd.f6.params[j]? = some t → args[j]? = some v → Value.okWide Tryd.prog W .any base t v := hval0
  have hW' := hW
  obtain ⟨p, q, hA0, hV, rfl, hfz, hnd⟩ := hW
  have hA : DataW.TrodAll enc Tryd.prog W 0 (fun _ => true) true Tryd.f6.params.toList args.toList ds p := hA0
  rw [Tryd.params6] at hA hval
  obtain ⟨v0, vs0, d0, ds0, p0, q0, hargs, rfl, rfl, h0, r0⟩ := trodAll_cons hA
  obtain ⟨rfl, rfl, rfl⟩ := trodAll_nil r0
  obtain rfl : args = #[v0] := by cases args; simp_all
  obtain ⟨rfl, rfl⟩ := trodVars_none hV
  have k0 := h0
  have lt0 : ∀ x ∈ p0, x.block < W.heap.size := by obtain ⟨m, hm⟩ := k0; exact DataW.trod_lt m _ _ _ hm
  obtain ⟨A, c, l, b, dd, nm, rfl, hlc, hkc, hwt⟩ := open_desc (hval 0 43 v0 rfl rfl) h0
  clear hA0 hval0
  refine (Td.descs_any A c l b dd nm W (hwt (fun n hn => by simpa using List.all_eq_true.1 hreach _ (DataW.weights_mem_each (j := 0) (t := 43) rfl rfl n hn))) hkc hlc).mono fun e W' ⟨he, bel⟩ => ?_
  subst he
  exact ⟨_, rfl, _, _, _, [], _, [], hW', trodAll_mk1 (shut_bool Tryd.underlying4 _), (trodAll_cons_mk (Below.trod laidOut (by kernel_rfl) (of_decide_eq_true (by kernel_rfl)) k0 bel lt0) trodAll_mk0), rfl, bel.frame _, fun h => by cases h⟩
theorem said : Rows.TypesDescsSaid :=
  OpenClaim.holds_of_cond 6 Tryd.f6 rfl rfl rfl rfl rfl rfl rfl ⟨rfl, rfl, rfl, rfl, rfl⟩ rfl rfl rfl rfl rfl (by kernel_rfl) Tryd.func6 (by kernel_rfl)
    (of_decide_eq_true (by kernel_rfl)) (by unfold Func.isWrapper; first | (rw [if_pos (by decide +kernel)]; kernel_rfl) | (rw [if_neg (by decide +kernel)]; exact ⟨rfl, rfl⟩))
    (fun os started H enc _ F => by rw [OpenClaim.pre_eq_preRow]; exact lifted os started H enc F)
theorem plain (f : FuncId) (fn : Func) (hf : Tryd.pinned.checked.prog.funcNamed "arbiter/arbiterlaw02.TypesDescs" = some f) (hfn : Tryd.pinned.checked.prog.funcs[f]? = some fn) :
    false = Tryd.pinned.checked.prog.looks [] ∧ ∀ (j : Nat) t, fn.params[j]? = some t → Tryd.pinned.checked.prog.wantsStandIn t = false := by
  obtain rfl : f = 6 := Option.some.inj ((show Tryd.prog.funcNamed "arbiter/arbiterlaw02.TypesDescs" = some 6 by kernel_rfl).symm.trans hf) |>.symm
  obtain rfl : fn = Tryd.f6 := (Option.some.inj (Tryd.func6.symm.trans hfn)).symm
  refine ⟨by kernel_rfl, fun j t ht => ?_⟩
  rw [Tryd.params6] at ht
  have hm := Array.mem_of_getElem? ht
  simp only [List.mem_toArray, List.mem_cons, List.not_mem_nil, or_false] at hm
  subst hm; show _ = _; kernel_rfl
theorem card : Rows.TypesDescsCardSaid :=
  Claim7.holds_tied_plain_at .later [] _ _ _ _ said (fun _ h => by cases h) (by kernel_rfl) (fun _ h => by cases h) typesDescs_row_tie rfl ⟨rfl, rfl⟩ (by kernel_rfl) rfl plain (by kernel_rfl)
#print axioms card
end Go.Proofs.YtajplppeijmfpaaDoor.rowTypesDescs
