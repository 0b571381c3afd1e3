/- Lemmas and contracts for the statement of PwDisplayKeeps: joined by program out of this session's texts. -/
import Derived.Test.YtaipkdglhfhhiaaGreatDoorBdPwDisplayKeeps5
import Derived.Laws.OwnMore
import Derived.Deep.Onto
import Derived.ArgAppend
import Derived.OwnWalk
import Derived.Test.YtaipkdglhfhhiaaGreatDoorProg
import Derived.Deep.Slices
import Derived.WideShapes
namespace Go.Proofs.YtaipkdglhfhhiaaGreatDoor.Pt
open Go Go.RowKit Go.Proofs.YtaipkdglhfhhiaaGreatDoor.Nm Go.Proofs.YtaipkdglhfhhiaaGreatDoor.Hi Go.Proofs.YtaipkdglhfhhiaaGreatDoorW.PrintWords Go.Proofs.YtaipkdglhfhhiaaGreatDoorW.PrintLast Go.Proofs.YtaipkdglhfhhiaaGreatDoorW.PrintMore
set_option linter.unusedVariables false
set_option linter.unusedSimpArgs false
set_option maxHeartbeats 1000000
set_option maxRecDepth 100000
theorem display_Deepest_nil (w : World) :
  Calls Tryz.prog 28 #[.pointer none] w fun e w' => e = .returned (.tuple #[.int .i64 0, .int .i64 2]) ∧ Below w.heap.size w w' := by
 go_enter Tryz.func28, Tryz.ntmps28; go_wp2; go_ret2
 exact ⟨rfl, Below.refl _ _⟩
theorem display_TestTypes_nil (a1_0 : Int) (a1_1 : ByteArray) (a2_0 : Int) (a2_1 : ByteArray) (w : World) :
  Calls Tryz.prog 43 #[.pointer none, .agg #[.int .i64 a1_0, .string a1_1], .agg #[.int .i64 a2_0, .string a2_1]] w fun e w' => e = .returned (.tuple #[.bool false, .int .i64 0, .int .i64 2]) ∧ Below w.heap.size w w' := by
 have BB := Lib.hid (((Below.refl w.heap.size w).alloc (Nat.le_refl _) (.cells #[.int .i64 a1_0, .string a1_1] 24)).alloc (by simp) (.cells #[.int .i64 a2_0, .string a2_1] 24)); have SB := Lib.hid (fun (W : World) => arrays_Sub_nil.calls a1_0 a1_1 a2_0 a2_1 false 2 W rfl); go_enter Tryz.func43, Tryz.ntmps43; go_wp2_with fail; refine (SB.out _).mono ?_; rintro e w1 ⟨rfl, hb1⟩; have M1 := Lib.hid (BB.out.trans (hb1.mono BB.out.size)); clear hb1 SB BB; go_wp2
 exact bodyPost_ret (v := .tuple #[.bool false, .int .i64 0, .int .i64 2]) (by simp [results, Tryz.results43, go_sem]) rfl ⟨rfl, M1.out⟩
theorem display_Test_nil (a1 a2 : Int) (w : World) :
  Calls Tryz.prog 23 #[.pointer none, .int .i64 a1, .int .i64 a2] w fun e w' => e = .returned (.tuple #[.bool false, .int .i64 0, .int .i64 2]) ∧ Below w.heap.size w w' := by
 have BB := Lib.hid ((Below.refl w.heap.size w).alloc (Nat.le_refl _) (.cells #[.int .i64 0] 3)); have B0 := Lib.hid (blk_new w (.cells #[.int .i64 0] 3)); have q0 : (w.alloc (.cells #[.int .i64 0] 3)).cell? ⟨w.heap.size, 0, none⟩ = some (.int .i64 0) := (blk_cell B0.out 0).trans rfl; have f0 := blk_frozen B0.out 0; go_enter Tryz.func23, Tryz.ntmps23; go_wp2; refine bodyPost_ret (v := .tuple #[.bool false, .int .i64 0, .int .i64 2]) (by simp [results, Tryz.results23, go_sem, q0]) rfl ⟨rfl, ?_⟩
 first | exact BB.out | exact Below.setCell (p := ⟨w.heap.size, 0, none⟩) BB.out (Nat.le_refl _) _
theorem display_Build_nil (a1 : Int) (w : World) :
  Calls Tryz.prog 26 #[.pointer none, .int .i64 a1] w fun e w' => e = .returned (.tuple #[.agg #[.slice none 0 0, .slice none 0 0, .slice none 0 0], .int .i64 2]) ∧ Below w.heap.size w w' := by
 have BB := Lib.hid ((Below.refl w.heap.size w).alloc (Nat.le_refl _) (.cells #[.slice none 0 0, .slice none 0 0, .slice none 0 0] 51)); have B0 := Lib.hid (blk_new w (.cells #[.slice none 0 0, .slice none 0 0, .slice none 0 0] 51)); have f0 := blk_frozen B0.out 0; have f1 := blk_frozen B0.out 1; have f2 := blk_frozen B0.out 2; have z0 : (w.alloc (.cells #[.slice none 0 0, .slice none 0 0, .slice none 0 0] 51)).cell? ⟨w.heap.size, 0, none⟩ = some (.slice none 0 0) := (blk_cell B0.out 0).trans rfl; have z1 : (w.alloc (.cells #[.slice none 0 0, .slice none 0 0, .slice none 0 0] 51)).cell? ⟨w.heap.size, 1, none⟩ = some (.slice none 0 0) := (blk_cell B0.out 1).trans rfl; have z2 : (w.alloc (.cells #[.slice none 0 0, .slice none 0 0, .slice none 0 0] 51)).cell? ⟨w.heap.size, 2, none⟩ = some (.slice none 0 0) := (blk_cell B0.out 2).trans rfl; go_enter Tryz.func26, Tryz.ntmps26; go_wp2
 exact bodyPost_ret (results_ct rfl _ _ w.heap.size 51 _ (0, 0) _ rfl B0.out Tryz.underlying51 rfl (by kernel_rfl)) rfl ⟨rfl, BB.out⟩
end Go.Proofs.YtaipkdglhfhhiaaGreatDoor.Pt

namespace Go.Proofs.YtaipkdglhfhhiaaGreatDoor.Ap
open Go Go.RowKit
set_option linter.unusedVariables false
set_option linter.unusedSimpArgs false
theorem heap_lt' {w : World} {g : Nat} {o : Obj} (h : w.heap[g]? = some o) : g < w.heap.size := (Array.getElem?_eq_some_iff.1 h).1
theorem own_prefix {w : World} {B : Nat} {e : TypeId} {g c n m : Nat} {xs : List Value} (h : w.ownsRow B e 1 (.slice (some ⟨g, 0, none⟩) m c) m xs) (hn : n ≤ m) :
  w.ownsRow B e 1 (.slice (some ⟨g, 0, none⟩) n c) n (xs.take n) := by
 obtain ⟨h1, h2⟩ := h
 rcases h2 with ⟨h', _⟩ | ⟨g', cap', cur, h', hb, hg, hnc, hcm, hcs, ht⟩
 ·simp at h'
 ·simp only [Value.slice.injEq, Option.some.injEq, Addr.mk.injEq, and_true, true_and] at h'
  obtain ⟨rfl, rfl⟩ := h'; refine ⟨by simp; omega, .inr ⟨g, c, cur, rfl, hb, hg, by omega, hcm, hcs, ?_⟩⟩; rw [← ht, List.take_take]
  congr 1
  omega
theorem own_caps {w : World} {B : Nat} {e : TypeId} {g c d n m : Nat} {xs ys : List Value} (h : w.ownsRow B e 1 (.slice (some ⟨g, 0, none⟩) m c) m xs) (k : w.ownsRow B e 1 (.slice (some ⟨g, 0, none⟩) n d) n ys) : c = d := by
 rcases h.2 with ⟨h', _⟩ | ⟨g', cap', cur, h', hb, hg, hnc, hcm, hcs, ht⟩
 ·simp at h'
 rcases k.2 with ⟨k', _⟩ | ⟨g2, cap2, cur2, k', kb, kg, knc, kcm, kcs, kt⟩
 ·simp at k'
 simp only [Value.slice.injEq, Option.some.injEq, Addr.mk.injEq, and_true, true_and] at h' k'; obtain ⟨rfl, rfl⟩ := h'; obtain ⟨rfl, rfl⟩ := k'; rw [hg] at kg; injection kg with kg; injection kg with kg; subst kg
 omega
theorem own_form {w : World} {B : Nat} {e : TypeId} {v : Value} {n : Nat} {xs : List Value} (h : w.ownsRow B e 1 v n xs) :
  (v = .slice none 0 0 ∧ n = 0) ∨ ∃ g c, v = .slice (some ⟨g, 0, none⟩) n c ∧ n ≤ c ∧ c ≤ maxLen ∧ B ≤ g ∧ g < w.heap.size := by
 rcases h.2 with ⟨h1, h2⟩ | ⟨g, cap, cur, h', hb, hg, hnc, hcm, hcs, ht⟩
 ·exact .inl ⟨h1, h2⟩
 ·exact .inr ⟨g, cap, h', hnc, hcm, hb, heap_lt' hg⟩
structure Grows (W w : World) (B : Nat) (e : TypeId) (X v0 g : Value) (n m : Nat) : Prop where
 row : w.ownsRow B e 1 g (n + m) (List.replicate (n + m) X)
 old : w.ownsRow B e 1 v0 n (List.replicate n X)
 place : g.ownBlock = v0.ownBlock ∨ ∃ k, g.ownBlock = some k ∧ W.heap.size ≤ k
 os : w.os = W.os
 tape : w.tape = W.tape
 output : w.output = W.output
 size : W.heap.size ≤ w.heap.size
 block : ∀ k, k < W.heap.size → v0.ownBlock ≠ some k → w.heap[k]? = W.heap[k]?
theorem Grows.start {W : World} {B : Nat} {e : TypeId} {X v0 : Value} {n : Nat} (h : W.ownsRow B e 1 v0 n (List.replicate n X)) : Grows W W B e X v0 v0 n 0 :=
 ⟨h, h, .inl rfl, rfl, rfl, rfl, Nat.le_refl _, fun _ _ _ => rfl⟩
theorem Grows.alloc {W w : World} {B : Nat} {e : TypeId} {X v0 g : Value} {n m : Nat} (h : Grows W w B e X v0 g n m) (o : Obj) : Grows W (w.alloc o) B e X v0 g n m :=
 ⟨h.row.alloc o, h.old.alloc o, h.place, h.os, h.tape, h.output, by have := h.size; simp; omega, fun k hk hn => (Below.heap_alloc w o k (Nat.lt_of_lt_of_le hk h.size)).trans (h.block k hk hn)⟩
theorem Grows.drew {W w : World} {B : Nat} {e : TypeId} {X v0 g : Value} {n m : Nat} (h : Grows W w B e X v0 g n m) : Grows W w.drew B e X v0 g n m :=
 ⟨h.row, h.old, h.place, h.os, h.tape, h.output, h.size, h.block⟩
theorem own_below {w w' : World} {B : Nat} {e : TypeId} {v : Value} {n : Nat} {xs : List Value} (h : w.ownsRow B e 1 v n xs) (hb : Below w.heap.size w w') : w'.ownsRow B e 1 v n xs :=
 h.kept (w' := w') (row := none) ⟨hb.os, hb.tape, hb.output, hb.size, fun k hk _ => hb.block k hk⟩ (by by_cases hv : v.ownBlock = none <;> simp [hv])
theorem Grows.below {W w w' : World} {B : Nat} {e : TypeId} {X v0 g : Value} {n m : Nat} (h : Grows W w B e X v0 g n m) (hb : Below w.heap.size w w') : Grows W w' B e X v0 g n m :=
 ⟨own_below h.row hb, own_below h.old hb, h.place, hb.os.trans h.os, hb.tape.trans h.tape, hb.output.trans h.output, Nat.le_trans h.size hb.size, fun k hk hn => (hb.block k (Nat.lt_of_lt_of_le hk h.size)).trans (h.block k hk hn)⟩
theorem kept_none {w w' : World} {B : Nat} {e : TypeId} {v : Value} {n : Nat} {xs : List Value} (h : w.ownsRow B e 1 v n xs) (hg : w.grownBy w' none) : w'.ownsRow B e 1 v n xs :=
 h.kept hg (by by_cases hv : v.ownBlock = none <;> simp [hv])
theorem wp_grows {P : Program} {W w : World} {ops : Array Oper} {rest : List Oper} {o : Oper} {a : Act} {Q : Exit → Act → World → Prop} (hgd : o.guard = none) (s x : Operand) (t e : TypeId) (z : Value) (bytes : Nat)
    (ho : o.op = .call { callee := .builtin .append, args := #[s, x], argTypes := #[t, t] })
    (ht : P.underlying t = some (.slice e)) (hinfo : (P.info? e).map (fun i => (i.zero, i.size, i.bytes)) = some (some z, 1, bytes)) (hz : z.cells.size = 1)
    {B : Nat} {X v0 g : Value} {n m : Nat} (HG : Grows W w B e X v0 g n m) (hWB : B ≤ W.heap.size) (hs : a.eval s = g) (xb : Nat) (hx : a.eval x = .slice (some ⟨xb, 0, none⟩) 1 1)
    (hxc : w.cell? ⟨xb, 0, none⟩ = some X) (h1 : X.oneCell' = true) (hm : n + m + 1 ≤ maxLen) (hl : (n + m + 1) * bytes ≤ 140737488355328)
    (hK : ∀ g1 w1, Grows W w1 B e X v0 g1 n (m + 1) → wpList P ops Q rest (a.put o.dst g1) w1) : wpList P ops Q (o :: rest) a w := by
  obtain ⟨i0, hi, hzz⟩ := Option.map_eq_some_iff.1 hinfo
  simp only [Prod.mk.injEq] at hzz
  obtain ⟨hz0, hz1, hz2⟩ := hzz
  have hwB : B ≤ w.heap.size := Nat.le_trans hWB HG.size
  have hnews : ∀ j u, [X][j]? = some u → w.cell? ((⟨xb, 0, none⟩ : Addr).add j) = some u := by
    intro j u hu
    cases j with
    | zero => simp at hu; subst hu; rw [Addr.add_lit]; exact hxc
    | succ j => simp at hu
  have hone : ∀ u ∈ [X], u.oneCell' = true := by intro u hu; simp at hu; subst hu; exact h1
  have hrep : List.replicate (n + m) X ++ [X] = List.replicate (n + (m + 1)) X := by
    rw [show n + (m + 1) = (n + m) + 1 by omega, List.replicate_succ']
  -- what is laid anew
  have grow : ∀ v' w', w'.ownsRow w.heap.size e 1 v' (n + m + 1) (List.replicate (n + m) X ++ [X]) → w.grownBy w' none → Grows W w' B e X v0 v' n (m + 1) := by
    intro v' w' h hg
    rw [hrep] at h
    refine ⟨h.mono hwB, kept_none HG.old hg, .inr ?_, hg.os.trans HG.os, hg.tape.trans HG.tape, hg.output.trans HG.output, Nat.le_trans HG.size hg.size, fun k hk hn => (hg.block k (Nat.lt_of_lt_of_le hk HG.size) (by simp)).trans (HG.block k hk hn)⟩
    rcases own_form h with ⟨_, h0⟩ | ⟨g', c', rfl, _, _, hb, _⟩
    · omega
    · exact ⟨g', rfl, Nat.le_trans HG.size hb⟩
  rcases own_form HG.row with ⟨hv, h0⟩ | ⟨gb, c, hv, hc, hcm, hgB, hgl⟩
  · refine wpList_append_grows w hgd s x t ho e i0 z 1 bytes ht hi hz0 hz1 hz2 hz (by decide) none (n + m) 0 (List.replicate (n + m) X) (by rw [hs, hv, h0]) (fun _ => ⟨h0, rfl⟩) (by simp) (fun b hb => by cases hb)
      ⟨xb, 0, none⟩ 1 1 [X] hx rfl hnews hone (by omega) hm hl (fun v' w' h hg => hK v' w' (grow v' w' h hg))
  · by_cases hroom : n + m + 1 ≤ c
    · have hrow := HG.row
      rw [hv] at hrow
      refine wpList_append_fits w hgd s x t ho B e i0 1 ht hi hz1 gb (n + m) c (List.replicate (n + m) X) (by rw [hs, hv]) hrow ⟨xb, 0, none⟩ 1 1 [X] hx rfl hnews hone hroom (fun w' h hg => hK _ w' ?_)
      rw [hrep] at h
      refine ⟨h, ?_, ?_, hg.os.trans HG.os, hg.tape.trans HG.tape, hg.output.trans HG.output, Nat.le_trans HG.size hg.size, fun k hk hn => (hg.block k (Nat.lt_of_lt_of_le hk HG.size) (fun e => ?_)).trans (HG.block k hk hn)⟩
      · by_cases hvb : v0.ownBlock = some gb
        · rcases own_form HG.old with ⟨hv0, hn0⟩ | ⟨g0, c0, hv0, hc0, _⟩
          · rw [hv0] at hvb; simp [Value.ownBlock] at hvb
          · rw [hv0] at hvb
            simp only [Value.ownBlock, Option.some.injEq] at hvb
            subst hvb
            have hold := HG.old
            rw [hv0] at hold
            obtain rfl := own_caps hrow hold
            have := own_prefix (n := n) h (by omega)
            rw [List.take_replicate, Nat.min_eq_left (by omega)] at this
            rw [hv0]
            exact this
        · exact HG.old.kept hg (.inr hvb)
      · rcases HG.place with hp | ⟨k, hp, hk⟩
        · left; rw [← hp, hv]; rfl
        · right; exact ⟨k, by rw [← hp, hv]; rfl, hk⟩
      · injection e with e
        subst e
        rcases HG.place with hp | ⟨k', hp, hk'⟩
        · rw [hv] at hp; exact hn hp.symm
        · rw [hv] at hp
          simp only [Value.ownBlock, Option.some.injEq] at hp
          omega
    · refine wpList_append_grows w hgd s x t ho e i0 z 1 bytes ht hi hz0 hz1 hz2 hz (by decide) (some ⟨gb, 0, none⟩) (n + m) c (List.replicate (n + m) X) (by rw [hs, hv]) (fun h => by cases h) (by simp)
        (fun b hb j u hu => by
          injection hb with hb
          subst hb
          have := HG.row.cells (g := gb) (by rw [hv]; rfl) j u hu
          exact this)
        ⟨xb, 0, none⟩ 1 1 [X] hx rfl hnews hone (by omega) hm hl (fun v' w' h hg => hK v' w' (grow v' w' h hg))
structure Fam (w : World) (B : Nat) (e : TypeId) (K : Nat) (v : Nat → Value) (n : Nat → Nat) (xs : Nat → List Value) : Prop where
 row : ∀ i, i < K → w.ownsRow B e 1 (v i) (n i) (xs i)
 apart : ∀ i j k, i < K → j < K → (v i).ownBlock = some k → (v j).ownBlock = some k → i = j
structure Spared (w w' : World) (K : Nat) (v : Nat → Value) : Prop where
 os : w'.os = w.os
 tape : w'.tape = w.tape
 output : w'.output = w.output
 size : w.heap.size ≤ w'.heap.size
 block : ∀ k, k < w.heap.size → (∀ i, i < K → (v i).ownBlock ≠ some k) → w'.heap[k]? = w.heap[k]?
theorem Spared.refl (w : World) (K : Nat) (v : Nat → Value) : Spared w w K v := ⟨rfl, rfl, rfl, Nat.le_refl _, fun _ _ _ => rfl⟩
theorem Spared.alloc {w w' : World} {K : Nat} {v : Nat → Value} (h : Spared w w' K v) (o : Obj) : Spared w (w'.alloc o) K v :=
 ⟨h.os, h.tape, h.output, by have := h.size; simp; omega, fun k hk hn => (Below.heap_alloc w' o k (Nat.lt_of_lt_of_le hk h.size)).trans (h.block k hk hn)⟩
theorem Spared.drew {w w' : World} {K : Nat} {v : Nat → Value} (h : Spared w w' K v) : Spared w w'.drew K v := ⟨h.os, h.tape, h.output, h.size, h.block⟩
theorem Spared.below {w w' w2 : World} {K : Nat} {v : Nat → Value} (h : Spared w w' K v) (hb : Below w'.heap.size w' w2) : Spared w w2 K v :=
 ⟨hb.os.trans h.os, hb.tape.trans h.tape, hb.output.trans h.output, Nat.le_trans h.size hb.size, fun k hk hn => (hb.block k (Nat.lt_of_lt_of_le hk h.size)).trans (h.block k hk hn)⟩
theorem Spared.set {w w' : World} {K : Nat} {v : Nat → Value} (h : Spared w w' K v) (a : Addr) (u : Value) (ha : w.heap.size ≤ a.block ∨ ∃ i, i < K ∧ (v i).ownBlock = some a.block) : Spared w (w'.setCell a u) K v :=
 ⟨h.os, h.tape, h.output, by simpa [World.setCell] using h.size, fun k hk hn => (Below.heap_setCell w' a u k (fun e => by
  rcases ha with ha | ⟨i, hi, hv⟩
  ·omega
  ·exact hn i hi (by rw [hv, e]))).trans (h.block k hk hn)⟩
theorem Spared.grows {w W w' : World} {K : Nat} {v : Nat → Value} (h : Spared w W K v) {B : Nat} {e : TypeId} {X g : Value} {n m i : Nat} (hg : Grows W w' B e X (v i) g n m) (hi : i < K) : Spared w w' K v :=
 ⟨hg.os.trans h.os, hg.tape.trans h.tape, hg.output.trans h.output, Nat.le_trans h.size hg.size, fun k hk hn => (hg.block k (Nat.lt_of_lt_of_le hk h.size) (hn i hi)).trans (h.block k hk hn)⟩
theorem Spared.toBelow {w w' : World} {K : Nat} {v : Nat → Value} (h : Spared w w' K v) {B : Nat} (hB : B ≤ w.heap.size) (hv : ∀ i k, i < K → (v i).ownBlock = some k → B ≤ k) : Below B w w' :=
 ⟨h.os, h.tape, h.output, h.size, fun k hk => h.block k (by omega) (fun i hi e => by have := hv i k hi e; omega)⟩
theorem Spared.kept {w w' : World} {K : Nat} {v : Nat → Value} (h : Spared w w' K v) {B : Nat} {e : TypeId} {u : Value} {n : Nat} {xs : List Value} (hr : w.ownsRow B e 1 u n xs) (hn : ∀ i k, i < K → (v i).ownBlock = some k → u.ownBlock ≠ some k) : w'.ownsRow B e 1 u n xs := by
 rcases own_form hr with ⟨rfl, rfl⟩ | ⟨g, c, rfl, hc, hcm, hB, hg⟩
 ·obtain ⟨h1, h2⟩ := hr
  exact ⟨h1, .inl ⟨rfl, rfl⟩⟩
 ·have hb := h.block g hg (fun i hi e => hn i g hi e rfl)
  obtain ⟨h1, h2⟩ := hr
  rcases h2 with ⟨h', _⟩ | ⟨g', cap', cur, h', r⟩
  ·simp at h'
  ·simp only [Value.slice.injEq, Option.some.injEq, Addr.mk.injEq, and_true, true_and] at h'
   obtain ⟨rfl, rfl⟩ := h'
   exact ⟨h1, .inr ⟨g, c, cur, rfl, r.1, hb.trans r.2.1, r.2.2⟩⟩
theorem Grows.keeps {W w : World} {B : Nat} {e : TypeId} {X v0 g u : Value} {n m k : Nat} {xs : List Value} (h : Grows W w B e X v0 g n m) (hr : W.ownsRow B e 1 u k xs) (hn : ∀ b, v0.ownBlock = some b → u.ownBlock ≠ some b) : w.ownsRow B e 1 u k xs := by
 rcases own_form hr with ⟨rfl, rfl⟩ | ⟨gb, c, rfl, hc, hcm, hB, hg⟩
 ·obtain ⟨h1, h2⟩ := hr
  exact ⟨h1, .inl ⟨rfl, rfl⟩⟩
 ·have hb := h.block gb hg (fun e => hn gb e rfl)
  obtain ⟨h1, h2⟩ := hr
  rcases h2 with ⟨h', _⟩ | ⟨g', cap', cur, h', r⟩
  ·simp at h'
  ·simp only [Value.slice.injEq, Option.some.injEq, Addr.mk.injEq, and_true, true_and] at h'
   obtain ⟨rfl, rfl⟩ := h'
   exact ⟨h1, .inr ⟨gb, c, cur, rfl, r.1, hb.trans r.2.1, r.2.2⟩⟩
def part (X : Value) (j : Nat) (xs : List Value) : List Value := List.replicate j X ++ xs.drop j
theorem part_zero (X : Value) (xs : List Value) : part X 0 xs = xs := by simp [part]
theorem part_all (X : Value) (xs : List Value) (n : Nat) (h : xs.length = n) : part X n xs = List.replicate n X := by simp [part, ← h]
theorem part_set (X : Value) (xs : List Value) (j : Nat) (h : j < xs.length) : (part X j xs).set j X = part X (j + 1) xs := by
 unfold part; rw [List.set_append_right (h := by simp)]; rw [List.length_replicate, Nat.sub_self, List.drop_eq_getElem_cons h, List.set_cons_zero, List.replicate_succ', List.append_assoc]
 rfl
theorem own_shape2 {w : World} {B : Nat} {e : TypeId} {v : Value} {n : Nat} {xs : List Value} (h : w.ownsRow B e 1 v n xs) : ∃ A c, v = .slice A n c ∧ (0 < n → ∃ g, A = some ⟨g, 0, none⟩) := by
 rcases own_form h with ⟨rfl, rfl⟩ | ⟨g, c, rfl, _⟩
 ·exact ⟨none, 0, rfl, fun h => absurd h (Nat.lt_irrefl _)⟩
 ·exact ⟨_, c, rfl, fun _ => ⟨g, rfl⟩⟩
theorem wrap_sm {i : Int} (h0 : -9223372036854775808 ≤ i) (h : i ≤ 9223372036854775807) : wrap64 i = i := by unfold wrap64; omega
structure Stage (w wr : World) (B : Nat) (e eS : TypeId) (K L G : Nat) (v : Nat → Value) (n : Nat → Nat) (ys : Nat → List Value) (gs : List Value) : Prop where
 fam : Fam wr B e K v n ys
 cell : ∀ i, i < K → wr.cell? ⟨L, i, none⟩ = some (v i)
 grown : wr.ownsRow w.heap.size eS 1 (.slice (some ⟨G, 0, none⟩) K K) K gs
 spared : Spared w wr K v
section
variable {w wr : World} {B : Nat} {e eS : TypeId} {K L G : Nat} {v : Nat → Value} {n : Nat → Nat} {ys : Nat → List Value} {gs : List Value}
theorem Stage.base (h : Stage w wr B e eS K L G v n ys gs) : w.heap.size ≤ G ∧ G < wr.heap.size := h.grown.lt G rfl
theorem Stage.below (h : Stage w wr B e eS K L G v n ys gs) {w2 : World} (hb : Below wr.heap.size wr w2) : Stage w w2 B e eS K L G v n ys gs :=
 ⟨⟨fun i hi => own_below (h.fam.row i hi) hb, h.fam.apart⟩, fun i hi => (hb.cell (World.block_lt_of_cell? _ _ (h.cell i hi))).trans (h.cell i hi), own_below h.grown hb, h.spared.below hb⟩
theorem Stage.congr (h : Stage w wr B e eS K L G v n ys gs) {zs : Nat → List Value} (hz : ∀ t, t < K → zs t = ys t) : Stage w wr B e eS K L G v n zs gs :=
 ⟨⟨fun i hi => by rw [hz i hi]; exact h.fam.row i hi, h.fam.apart⟩, h.cell, h.grown, h.spared⟩
theorem Stage.store (h : Stage w wr B e eS K L G v n ys gs) {i j g c : Nat} (hi : i < K) (hv : v i = .slice (some ⟨g, 0, none⟩) (n i) c) (hvb : ∀ i b, i < K → (v i).ownBlock = some b → b < w.heap.size) (hL : ∀ i, i < K → (v i).ownBlock ≠ some L) (u : Value)
  {zs : Nat → List Value} (hz : ∀ k, k < K → zs k = if k = i then (ys i).set j u else ys k) : Stage w (wr.setCell ⟨g, j, none⟩ u) B e eS K L G v n zs gs := by
 have hb : (v i).ownBlock = some g := by rw [hv]; rfl
 have hg := hvb i g hi hb; have hG := h.base; refine ⟨⟨fun k hk => ?_, h.fam.apart⟩, fun k hk => ?_, ownsRow_setCell_other h.grown (by show some G ≠ some g; intro e; injection e with e; omega) u, h.spared.set _ _ (.inr ⟨i, hi, hb⟩)⟩
 ·rw [hz k hk]
  split
  ·rename_i e
   subst e; have := h.fam.row k hk; rw [hv] at this ⊢
   exact (this.stored j u).1
  ·rename_i hne
   exact ownsRow_setCell_other (h.fam.row k hk) (fun e => hne (h.fam.apart k i g hk hi e hb)) u
 ·rw [World.cell?_setCell_other (h := by
   intro e; injection e with e1
   exact hL i hi (by rw [hb, e1]))]
  exact h.cell k hk
theorem Stage.put (h : Stage w wr B e eS K L G v n ys gs) (hvb : ∀ i b, i < K → (v i).ownBlock = some b → b < w.heap.size) (hLG : L < w.heap.size) (i : Nat) (u : Value) : Stage w (wr.setCell ⟨G, i, none⟩ u) B e eS K L G v n ys (gs.set i u) := by
 have hG := h.base; refine ⟨⟨fun k hk => ownsRow_setCell_other (h.fam.row k hk) (fun e => by have := hvb k G hk e; omega) u, h.fam.apart⟩, fun k hk => ?_, (h.grown.stored i u).1, h.spared.set _ _ (.inl hG.1)⟩
 rw [World.cell?_setCell_other (h := by
  intro e; injection e with e1
  omega)]
 exact h.cell k hk
theorem Stage.grow (h : Stage w wr B e eS K L G v n ys gs) {i m : Nat} {X g : Value} {w2 : World} (hi : i < K) (hg : Grows wr w2 B e X (v i) g (n i) m) (hX : ys i = List.replicate (n i) X) (hvb : ∀ i b, i < K → (v i).ownBlock = some b → b < w.heap.size)
  (hL : ∀ i, i < K → (v i).ownBlock ≠ some L) (hLG : L < w.heap.size) : Stage w w2 B e eS K L G v n ys gs := by
 have hG := h.base; refine ⟨⟨fun k hk => ?_, h.fam.apart⟩, fun k hk => ?_, ?_, h.spared.grows hg hi⟩
 ·by_cases hki : k = i
  ·subst hki; rw [hX]; exact hg.old
  ·exact hg.keeps (h.fam.row k hk) (fun b hb e => hki (h.fam.apart k i b hk hi e hb))
 ·have hs := h.spared.size
  exact (World.cell?_of_block (a := ⟨L, k, none⟩) (hg.block L (by omega) (hL i hi))).trans (h.cell k hk)
 ·have hb := hg.block G hG.2 (fun e => by have := hvb i G hi e; omega)
  obtain ⟨h1, h2⟩ := h.grown
  rcases h2 with ⟨h', _⟩ | ⟨g', cap', cur, h', r⟩
  ·simp at h'
  ·simp only [Value.slice.injEq, Option.some.injEq, Addr.mk.injEq, and_true, true_and] at h'
   obtain ⟨rfl, rfl⟩ := h'
   exact ⟨h1, .inr ⟨G, K, cur, rfl, r.1, hb.trans r.2.1, r.2.2⟩⟩
def Grew (wr : World) (B : Nat) (e : TypeId) (M H : Nat) (v : Nat → Value) (n : Nat → Nat) (X : Nat → Value) (i : Nat) (gs : List Value) : Prop :=
 ∀ j, j < i → ∃ g, gs[j]? = some g ∧ wr.ownsRow B e 1 g (n j + M) (List.replicate (n j + M) (X j)) ∧ (g.ownBlock = (v j).ownBlock ∨ ∃ b, g.ownBlock = some b ∧ H ≤ b)
theorem Grew.below {M H i : Nat} {X : Nat → Value} (h : Grew wr B e M H v n X i gs) {w2 : World} (hb : Below wr.heap.size wr w2) : Grew w2 B e M H v n X i gs := fun j hj => by
 obtain ⟨g, h1, h2, h3⟩ := h j hj
 exact ⟨g, h1, own_below h2 hb, h3⟩
theorem Grew.next {M H i : Nat} {X : Nat → Value} {w2 : World} {g : Value} (h : Grew wr B e M H v n X i gs) (hs : Stage w wr B e eS K L G v n ys gs) (hi : i < K) (hg : Grows wr w2 B e (X i) (v i) g (n i) M) (hvb : ∀ i b, i < K → (v i).ownBlock = some b → b < w.heap.size)
  (hwH : w.heap.size ≤ H) (hGH : G < H) (hH : H ≤ wr.heap.size) : Grew (w2.setCell ⟨G, i, none⟩ g) B e M H v n X (i + 1) (gs.set i g) := by
 have hG := hs.base
 have hlen : gs.length = K := by have := hs.grown.1; omega
 intro j hj
 by_cases hji : j = i
 ·subst hji
  refine ⟨g, by rw [List.getElem?_set_self (by omega)], ?_, ?_⟩
  ·refine ownsRow_setCell_other hg.row (fun e => ?_) g
   rcases hg.place with hp | ⟨b, hp, hb⟩
   ·rw [hp] at e; have := hvb j G hi e; omega
   ·rw [hp] at e; have e : b = G := by injection e
    omega
  ·rcases hg.place with hp | ⟨b, hp, hb⟩
   ·exact .inl hp
   ·exact .inr ⟨b, hp, by omega⟩
 ·obtain ⟨u, h1, h2, h3⟩ := h j (by omega)
  refine ⟨u, by rw [List.getElem?_set_ne (fun e => hji e.symm)]; exact h1, ?_, h3⟩; refine ownsRow_setCell_other (hg.keeps h2 (fun b hb e => ?_)) (fun e => ?_) g
  ·rcases h3 with h3 | ⟨b', h3, hb'⟩
   ·rw [h3] at e; exact hji (hs.fam.apart j i b (by omega) hi e hb)
   ·rw [h3] at e; injection e with e; have := hvb i b hi hb; omega
  ·rcases h3 with h3 | ⟨b', h3, hb'⟩
   ·rw [h3] at e; have := hvb j G (by omega) e; omega
   ·rw [h3] at e; have e : b' = G := by injection e
    omega
end
end Go.Proofs.YtaipkdglhfhhiaaGreatDoor.Ap

namespace Go.Proofs.YtaipkdglhfhhiaaGreatDoor.Ap
open Go Go.RowKit
set_option linter.unusedVariables false
set_option linter.unusedSimpArgs false
theorem infoI : (Tryz.prog.info? 3).map (fun i => (i.zero, i.size, i.bytes)) = some (some (.int .i64 0), 1, 8) := by kernel_rfl
theorem infoII : (Tryz.prog.info? 49).map (fun i => (i.zero, i.size, i.bytes)) = some (some (.slice none 0 0), 1, 24) := by kernel_rfl
def mk (i : Nat) : Value := .int .i64 (-1 - (i : Int))
set_option maxRecDepth 100000 in
set_option maxHeartbeats 1000000 in
theorem numsApart_any (w : World) (B K L c : Nat) (v : Nat → Value) (n : Nat → Nat) (xs : Nat → List Value) (HF : Fam w B 3 K v n xs) (hcell : ∀ i, i < K → w.cell? ⟨L, i, none⟩ = some (v i))
  (hL : ∀ i, i < K → (v i).ownBlock ≠ some L) (hLs : L < w.heap.size) (hK : K ≤ 100) (hn : ∀ i, i < K → n i ≤ 2000000) (hB : B ≤ w.heap.size) :
  Calls Tryz.prog 45 #[.slice (some ⟨L, 0, none⟩) K c] w fun e w' => e = .returned (.bool true) ∧ Spared w w' K v := by
 replace HF := Lib.hid HF; replace hcell := Lib.hid hcell; replace hL := Lib.hid hL; replace hn := Lib.hid hn; obtain ⟨iII, hII, hz⟩ := Option.map_eq_some_iff.1 infoII; simp only [Prod.mk.injEq] at hz; obtain ⟨hz0, hz1, hz2⟩ := hz; obtain ⟨w1, hmk, hG, hg1⟩ := run_makeSlice_full (P := Tryz.prog) w w.heap.size 79 49 iII (.slice none 0 0) 1 Tryz.underlying79 hII hz0 hz1 .i64 .i64 K (by omega) (by rw [hz2]; omega) (by simp only [maxLen]; omega) (Nat.le_refl _)
 have hb1 : Below w.heap.size w w1 := ⟨hg1.os, hg1.tape, hg1.output, hg1.size, fun k hk => hg1.block k hk (by simp)⟩
 have hvb : ∀ i b, i < K → (v i).ownBlock = some b → b < w.heap.size := fun i b hi hb => ((HF.out.row i hi).lt b hb).2
 have hz1 : (madeCells (Value.slice none 0 0).cells (K * 1)).toList.length = K := by have := hG.1; omega
 obtain ⟨zs, hzs⟩ : ∃ zs, (madeCells (Value.slice none 0 0).cells (K * 1)).toList = zs := ⟨_, rfl⟩
 rw [hzs] at hG hz1
 have S1 : Stage w w1 B 3 49 K L w.heap.size v n xs zs :=
  ⟨⟨fun i hi => kept_none (HF.out.row i hi) hg1, HF.out.apart⟩, fun i hi => hg1.cell (hcell.out i hi) (by simp), hG, (Spared.refl w K v).below hb1⟩
 have hsz1 : w.heap.size < w1.heap.size := S1.base.2
 have hlen : ∀ i, i < K → (xs i).length = n i := fun i hi => by have := (HF.out.row i hi).1; omega
 replace S1 := Lib.hid S1; replace hvb := Lib.hid hvb; replace hlen := Lib.hid hlen; clear hb1 hg1 hz0 hz2 hcell hG hzs HF; go_enter Tryz.func45, Tryz.ntmps45; go_wp2_with fail
 go_loopw [4] (fun i wr => ∃ k : Nat, k ≤ K ∧ i = .int .i64 k ∧ w1.heap.size ≤ wr.heap.size ∧ Stage w wr B 3 49 K L w.heap.size v n (fun t => if t < k then List.replicate (n t) (mk t) else xs t) zs) (fun i _ => K - (intOf i).toNat)
 case atStart => exact ⟨0, Nat.zero_le _, rfl, Nat.le_refl _, S1.out⟩
 case round =>
  obtain ⟨k, hk, rfl, hzr, hS⟩ := hrel; have S := Lib.hid hS; clear hS S1
  by_cases hlt : k < K
  ·obtain ⟨A, cp, hvk, hA⟩ := own_shape2 (S.out.fam.row k hlt)
   have hnk := hn.out k hlt; have hlk := hlen.out k hlt; have hneg : wrap64 (-1 - (k : Int)) = -1 - k := wrap_sm (by omega) (by omega); go_wp2_with fail
   go_loopw [5] (fun i wr2 => ∃ j : Nat, j ≤ n k ∧ i = .int .i64 j ∧ w1.heap.size ≤ wr2.heap.size ∧ Stage w wr2 B 3 49 K L w.heap.size v n (fun t => if t < k then List.replicate (n t) (mk t) else if t = k then part (mk k) j (xs t) else xs t) zs) (fun i _ => n k - (intOf i).toNat)
   case atStart =>
    refine ⟨0, Nat.zero_le _, rfl, hzr, ?_⟩
    have : (fun t => if t < k then List.replicate (n t) (mk t) else if t = k then part (mk k) 0 (xs t) else xs t) = (fun t => if t < k then List.replicate (n t) (mk t) else xs t) := by
     funext t
     simp [part_zero]
    rw [this]
    exact S.out
   case round =>
    obtain ⟨j, hj, rfl, hzr2, hS2⟩ := hrel; have q1 := hS2.cell k hlt; rw [hvk] at q1; have S2 := Lib.hid hS2; clear hS2 S
    by_cases hjn : j < n k
    ·obtain ⟨g, rfl⟩ := hA (by omega)
     have hrow := S2.out.fam.row k hlt; simp only [Nat.lt_irrefl, if_false, if_true] at hrow; rw [hvk] at hrow
     have q2 : (wr.cell? ⟨g, j, none⟩).isSome = true := by
      rw [hrow.cellAt j (by omega), List.getElem?_eq_getElem (by have := hrow.1; omega)]
      rfl
     have q3 := hrow.frozenAt j; obtain ⟨old, q2⟩ := Option.isSome_iff_exists.1 q2; clear hrow; go_wp2_with fail; refine ⟨⟨j + 1, by omega, by go_num, by simp; omega, S2.out.store hlt hvk hvb.out hL.out _ (fun t ht => ?_)⟩, by simp [intOf]; omega⟩
     by_cases htk : t = k
     ·subst htk
      simp only [Nat.lt_irrefl, if_false, if_true]
      exact (part_set (mk t) (xs t) j (by omega)).symm
     ·simp only [if_neg htk]
    ·obtain rfl : j = n k := by omega
     go_wp2_with fail; refine ⟨⟨k + 1, by omega, by go_num, hzr2, S2.out.congr (fun t ht => ?_)⟩, by simp [intOf]; omega⟩
     by_cases htk : t = k
     ·subst htk
      simp only [Nat.lt_irrefl, if_false, if_true, Nat.lt_succ_self]
      exact (part_all (mk t) (xs t) (n t) hlk).symm
     ·simp only [if_neg htk, show t < k + 1 ↔ t < k by omega]
  ·obtain rfl : K = k := by omega
   have S2 := Lib.hid (S.out.congr (zs := fun t => List.replicate (n t) (mk t)) (fun t ht => by simp only [if_pos ht])); clear S; go_wp2_with fail
   go_loopw [6] (fun i wr2 => ∃ (k : Nat) (gs : List Value), k ≤ K ∧ i = .int .i64 k ∧ w1.heap.size ≤ wr2.heap.size ∧ Stage w wr2 B 3 49 K L w.heap.size v n (fun t => List.replicate (n t) (mk t)) gs ∧ Grew wr2 B 3 40 w1.heap.size v n mk k gs) (fun i _ => K - (intOf i).toNat)
   case atStart => exact ⟨0, zs, Nat.zero_le _, rfl, hzr, S2.out, fun j hj => absurd hj (Nat.not_lt_zero _)⟩
   case round =>
    obtain ⟨wo, rfl⟩ : ∃ x, x = wr := ⟨wr, rfl⟩
    obtain ⟨k, gs, hk, rfl, hzr2, hS3, hgr⟩ := hrel; have S := Lib.hid hS3; have GR := Lib.hid hgr; clear hS3 hgr S2 hzr
    by_cases hlt : k < K
    ·obtain ⟨A, cp, hvk, hA⟩ := own_shape2 (S.out.fam.row k hlt)
     have q1 := S.out.cell k hlt; rw [hvk] at q1; have hnk := hn.out k hlt; have hneg : wrap64 (-1 - (k : Int)) = -1 - k := wrap_sm (by omega) (by omega); have hst := Grows.start (S.out.fam.row k hlt)
     have hBr : B ≤ wo.heap.size := by omega
     go_wp2_with fail
     go_loopw [7, 8] (fun gv i wr2 => ∃ m : Nat, m ≤ 40 ∧ i = .int .i64 m ∧ Grows wo wr2 B 3 (mk k) (v k) gv (n k) m) (fun _ i _ => 40 - (intOf i).toNat)
     case atStart => exact ⟨0, Nat.zero_le _, rfl, by rw [← hvk]; exact hst⟩
     case round =>
      obtain ⟨m, hm, rfl, hg⟩ := hrel; have HG := Lib.hid hg; clear hg hst
      by_cases hm40 : m < 40
      ·have hxc : (wr.alloc (.cells #[.int .i64 (-1 - (k : Int))] 3)).cell? ⟨wr.heap.size, 0, none⟩ = some (mk k) := by
        rw [cell_new]; rfl
       go_wp2_with (at_builtin; go_loud (refine wp_grows rfl _ _ 49 3 (.int .i64 0) 8 rfl Tryz.underlying49 infoI rfl (HG.out.alloc _) hBr rfl _ rfl hxc rfl (by simp only [maxLen]; omega) (by omega) ?_); intro g1 w3 hg1)
       exact ⟨⟨m + 1, by omega, by go_num, hg1⟩, by simp [intOf]; omega⟩
      ·obtain rfl : m = 40 := by omega
       obtain ⟨A', cp', hgv, hA'⟩ := own_shape2 HG.out.row; subst hgv; have S4 := S.out.grow hlt HG.out rfl hvb.out hL.out hLs
       have hlz : gs.length = K := by have := S4.grown.1; omega
       have q4 : (wr.cell? ⟨w.heap.size, k, none⟩).isSome = true := by
        rw [S4.grown.cellAt k (by omega), List.getElem?_eq_getElem (by omega)]
        rfl
       have q5 := S4.grown.frozenAt k; obtain ⟨old, q4⟩ := Option.isSome_iff_exists.1 q4; have S5 := Lib.hid (S4.put hvb.out hLs k (.slice A' (n k + 40) cp')); have G5 := Lib.hid (GR.out.next S.out hlt HG.out hvb.out (by omega) hsz1 hzr2); have hz5 := HG.out.size; clear S4; go_wp2_with fail
       exact ⟨⟨k + 1, _, by omega, by go_num, by simp; omega, S5.out, G5.out⟩, by simp [intOf]; omega⟩
    ·obtain rfl : K = k := by omega
     obtain ⟨wf, rfl⟩ : ∃ x, x = wo := ⟨wo, rfl⟩
     go_wp2_with fail
     go_loopw [9] (fun i wr2 => ∃ k : Nat, k ≤ K ∧ i = .int .i64 k ∧ wr2 = wf) (fun i _ => K - (intOf i).toNat)
     case atStart => exact ⟨0, Nat.zero_le _, rfl, rfl⟩
     case round =>
      obtain ⟨k, hk, rfl, rfl⟩ := hrel
      by_cases hlt : k < K
      ·obtain ⟨gv, y1, y2, y3⟩ := GR.out k hlt
       obtain ⟨A', cp', hgv, hA'⟩ := own_shape2 y2
       have x1 : wr.cell? ⟨w.heap.size, k, none⟩ = some gv := by
        rw [S.out.grown.cellAt k (by omega)]; exact y1
       rw [hgv] at x1; obtain ⟨A, cp, hvk, hA⟩ := own_shape2 (S.out.fam.row k hlt); have x2 := S.out.cell k hlt; rw [hvk] at x2; have hnk := hn.out k hlt; have hneg : wrap64 (-1 - (k : Int)) = -1 - k := wrap_sm (by omega) (by omega); go_wp2_with fail
       go_loopw [10] (fun i wr2 => ∃ j : Nat, j ≤ n k + 40 ∧ i = .int .i64 j ∧ wr2 = wr) (fun i _ => n k + 40 - (intOf i).toNat)
       case atStart => exact ⟨0, Nat.zero_le _, rfl, rfl⟩
       case round =>
        obtain ⟨j, hj, rfl, rfl⟩ := hrel
        by_cases hj1 : j < n k + 40
        ·obtain ⟨gg, rfl⟩ := hA' (by omega)
         have x3 : wr.cell? ⟨gg, j, none⟩ = some (.int .i64 (-1 - (k : Int))) := by
          rw [hgv] at y2; rw [y2.cellAt j (by omega), List.getElem?_replicate, if_pos hj1]; rfl
         by_cases hj2 : j < n k
         ·obtain ⟨g0, rfl⟩ := hA (by omega)
          have x4 : wr.cell? ⟨g0, j, none⟩ = some (.int .i64 (-1 - (k : Int))) := by
           have hrow := S.out.fam.row k hlt; rw [hvk] at hrow; rw [hrow.cellAt j (by omega), List.getElem?_replicate, if_pos hj2]; rfl
          go_wp2_with fail
          exact ⟨⟨j + 1, by omega, by go_num, trivial⟩, by simp [intOf]; omega⟩
         ·go_wp2_with fail
          exact ⟨⟨j + 1, by omega, by go_num, trivial⟩, by simp [intOf]; omega⟩
        ·obtain rfl : j = n k + 40 := by omega
         go_wp2_with fail
         exact ⟨⟨k + 1, by omega, by go_num, trivial⟩, by simp [intOf]; omega⟩
      ·obtain rfl : K = k := by omega
       go_wp2_with fail; go_ret
       exact ⟨rfl, S.out.spared⟩
#print axioms numsApart_any
end Go.Proofs.YtaipkdglhfhhiaaGreatDoor.Ap

namespace Go.Proofs.YtaipkdglhfhhiaaGreatDoor.Pt
open Go Go.RowKit Go.Proofs.YtaipkdglhfhhiaaGreatDoor.Nm Go.Proofs.YtaipkdglhfhhiaaGreatDoor.Ty Go.Proofs.YtaipkdglhfhhiaaGreatDoor.Hi Go.Proofs.YtaipkdglhfhhiaaGreatDoorW.PrintWords Go.Proofs.YtaipkdglhfhhiaaGreatDoorW.PrintLast Go.Proofs.YtaipkdglhfhhiaaGreatDoorW.PrintMore
open Go.Proofs.YtaipkdglhfhhiaaGreatDoor.Ap (Fam Spared numsApart_any)
set_option linter.unusedVariables false
set_option linter.unusedSimpArgs false
set_option maxRecDepth 100000
set_option maxHeartbeats 2000000
structure Disp (w : World) (B : Nat) (v0 v1 v2 : Value) (p d s : List Int) : Prop where
 r0 : Kd.R (Kd.int .i64) 3 w B (fun k_ => some k_ ≠ v1.ownBlock ∧ some k_ ≠ v2.ownBlock) v0 p
 r1 : Kd.R (Kd.int .i64) 3 w B (fun k_ => some k_ ≠ v0.ownBlock ∧ some k_ ≠ v2.ownBlock) v1 d
 r2 : Kd.R (Kd.int .i64) 3 w B (fun k_ => some k_ ≠ v0.ownBlock ∧ some k_ ≠ v1.ownBlock) v2 s
theorem Disp.below {w w1 : World} {B : Nat} {v0 v1 v2 : Value} {p d s : List Int} (h : Disp w B v0 v1 v2 p d s) (hb : Below w.heap.size w w1) : Disp w1 B v0 v1 v2 p d s :=
 ⟨Kd.R_below h.r0 hb, Kd.R_below h.r1 hb, Kd.R_below h.r2 hb⟩
theorem Disp.spared {w w1 : World} {B K : Nat} {v : Nat → Value} {v0 v1 v2 : Value} {p d s : List Int} (h : Disp w B v0 v1 v2 p d s) (hs : Spared w w1 K v) (hv : ∀ i k, i < K → (v i).ownBlock = some k → k < B) : Disp w1 B v0 v1 v2 p d s := by
 have key : ∀ {ok : Nat → Prop} {u : Value} {xs : List Int}, Kd.R (Kd.int .i64) 3 w B ok u xs → Kd.R (Kd.int .i64) 3 w1 B ok u xs := fun hr =>
  Kd.R_mono (Kd.R_step (Kd.R_bound hr) (fun k hk hlt => hs.block k hlt (fun i hi e => by have := hv i k hi e; omega))) (fun _ hk => hk.1)
 exact ⟨key h.r0, key h.r1, key h.r2⟩
theorem Disp.open_ {w : World} {B : Nat} {v0 v1 v2 : Value} {p d s : List Int} (h : Disp w B v0 v1 v2 p d s) : ∃ A0 c0 A1 c1 A2 c2, v0 = .slice A0 p.length c0 ∧ v1 = .slice A1 d.length c1 ∧ v2 = .slice A2 s.length c2 := by
 obtain ⟨A0, c0, h0⟩ := Kd.R_slice h.r0; obtain ⟨A1, c1, h1⟩ := Kd.R_slice h.r1; obtain ⟨A2, c2, h2⟩ := Kd.R_slice h.r2
 exact ⟨A0, c0, A1, c1, A2, c2, h0, h1, h2⟩
def six {α : Type} (a b c d e f : α) : Nat → α
 | 0 => a
 | 1 => b
 | 2 => c
 | 3 => d
 | 4 => e
 | _ => f
theorem fam6 {w : World} {B Ba Bb : Nat} {a0 a1 a2 b0 b1 b2 : Value} {p d s p' d' s' : List Int} (ha : Disp w Ba a0 a1 a2 p d s) (hb : Disp w Bb b0 b1 b2 p' d' s') (hBa : B ≤ Ba) (hBb : B ≤ Bb)
  (hlt : ∀ k, (a0.ownBlock = some k ∨ a1.ownBlock = some k ∨ a2.ownBlock = some k) → k < Bb) :
  ∃ xs, Fam w B 3 6 (six a0 a1 a2 b0 b1 b2) (six p.length d.length s.length p'.length d'.length s'.length) xs := by
 obtain ⟨i0, o0⟩ := Kd.R_own ha.r0; obtain ⟨i1, o1⟩ := Kd.R_own ha.r1; obtain ⟨i2, o2⟩ := Kd.R_own ha.r2; obtain ⟨i3, o3⟩ := Kd.R_own hb.r0; obtain ⟨i4, o4⟩ := Kd.R_own hb.r1; obtain ⟨i5, o5⟩ := Kd.R_own hb.r2; have n01 : ∀ k, a0.ownBlock = some k → a1.ownBlock ≠ some k := fun k h e => (ha.r0.1 k h).1 e.symm; have n02 : ∀ k, a0.ownBlock = some k → a2.ownBlock ≠ some k := fun k h e => (ha.r0.1 k h).2 e.symm
 have n03 : ∀ k, a0.ownBlock = some k → b0.ownBlock ≠ some k := fun k h e => by have h1 := hlt k (.inl h); have h2 := own_base o3 k e; omega
 have n04 : ∀ k, a0.ownBlock = some k → b1.ownBlock ≠ some k := fun k h e => by have h1 := hlt k (.inl h); have h2 := own_base o4 k e; omega
 have n05 : ∀ k, a0.ownBlock = some k → b2.ownBlock ≠ some k := fun k h e => by have h1 := hlt k (.inl h); have h2 := own_base o5 k e; omega
 have n12 : ∀ k, a1.ownBlock = some k → a2.ownBlock ≠ some k := fun k h e => (ha.r1.1 k h).2 e.symm
 have n13 : ∀ k, a1.ownBlock = some k → b0.ownBlock ≠ some k := fun k h e => by have h1 := hlt k (.inr (.inl h)); have h2 := own_base o3 k e; omega
 have n14 : ∀ k, a1.ownBlock = some k → b1.ownBlock ≠ some k := fun k h e => by have h1 := hlt k (.inr (.inl h)); have h2 := own_base o4 k e; omega
 have n15 : ∀ k, a1.ownBlock = some k → b2.ownBlock ≠ some k := fun k h e => by have h1 := hlt k (.inr (.inl h)); have h2 := own_base o5 k e; omega
 have n23 : ∀ k, a2.ownBlock = some k → b0.ownBlock ≠ some k := fun k h e => by have h1 := hlt k (.inr (.inr h)); have h2 := own_base o3 k e; omega
 have n24 : ∀ k, a2.ownBlock = some k → b1.ownBlock ≠ some k := fun k h e => by have h1 := hlt k (.inr (.inr h)); have h2 := own_base o4 k e; omega
 have n25 : ∀ k, a2.ownBlock = some k → b2.ownBlock ≠ some k := fun k h e => by have h1 := hlt k (.inr (.inr h)); have h2 := own_base o5 k e; omega
 have n34 : ∀ k, b0.ownBlock = some k → b1.ownBlock ≠ some k := fun k h e => (hb.r0.1 k h).1 e.symm; have n35 : ∀ k, b0.ownBlock = some k → b2.ownBlock ≠ some k := fun k h e => (hb.r0.1 k h).2 e.symm; have n45 : ∀ k, b1.ownBlock = some k → b2.ownBlock ≠ some k := fun k h e => (hb.r1.1 k h).2 e.symm; refine ⟨six i0 i1 i2 i3 i4 i5, fun i hi => ?_, fun i j k hi hj h1 h2 => ?_⟩
 ·match i, hi with
  | 0, _ => exact own_weaken o0 hBa
  | 1, _ => exact own_weaken o1 hBa
  | 2, _ => exact own_weaken o2 hBa
  | 3, _ => exact own_weaken o3 hBb
  | 4, _ => exact own_weaken o4 hBb
  | 5, _ => exact own_weaken o5 hBb
 ·have c6 : ∀ i, i < 6 → i = 0 ∨ i = 1 ∨ i = 2 ∨ i = 3 ∨ i = 4 ∨ i = 5 := by omega
  rcases c6 i hi with rfl | rfl | rfl | rfl | rfl | rfl <;> rcases c6 j hj with rfl | rfl | rfl | rfl | rfl | rfl <;> simp only [six] at h1 h2
  all_goals first
  | rfl
  | exact absurd h2 (n01 k h1)
  | exact absurd h1 (n01 k h2)
  | exact absurd h2 (n02 k h1)
  | exact absurd h1 (n02 k h2)
  | exact absurd h2 (n03 k h1)
  | exact absurd h1 (n03 k h2)
  | exact absurd h2 (n04 k h1)
  | exact absurd h1 (n04 k h2)
  | exact absurd h2 (n05 k h1)
  | exact absurd h1 (n05 k h2)
  | exact absurd h2 (n12 k h1)
  | exact absurd h1 (n12 k h2)
  | exact absurd h2 (n13 k h1)
  | exact absurd h1 (n13 k h2)
  | exact absurd h2 (n14 k h1)
  | exact absurd h1 (n14 k h2)
  | exact absurd h2 (n15 k h1)
  | exact absurd h1 (n15 k h2)
  | exact absurd h2 (n23 k h1)
  | exact absurd h1 (n23 k h2)
  | exact absurd h2 (n24 k h1)
  | exact absurd h1 (n24 k h2)
  | exact absurd h2 (n25 k h1)
  | exact absurd h1 (n25 k h2)
  | exact absurd h2 (n34 k h1)
  | exact absurd h1 (n34 k h2)
  | exact absurd h2 (n35 k h1)
  | exact absurd h1 (n35 k h2)
  | exact absurd h2 (n45 k h1)
  | exact absurd h1 (n45 k h2)
theorem build_ok {W : World} {G : Nat} {es : List Ent} {k : Nat} {a : Int} {p d s : List Int} {e : Int} (hq : WOK W G es) (hF : display_Build.f k es a = some (p, d, s, e)) :
  Calls Tryz.prog 26 #[.pointer (some ⟨G, 0, none⟩), .int .i64 a] W fun x w' => ∃ A0 c0 A1 c1 A2 c2,
   x = .returned (.tuple #[.agg #[.slice A0 p.length c0, .slice A1 d.length c1, .slice A2 s.length c2], .int .i64 e]) ∧ Disp w' W.heap.size (.slice A0 p.length c0) (.slice A1 d.length c1) (.slice A2 s.length c2) p d s ∧ Below W.heap.size W w' := by
 refine (display_Build.calls k G es a p d s e W hq hF).mono ?_; rintro x w' ⟨v0, v1, v2, rfl, h0, h1, h2, hb⟩
 have hD : Disp w' W.heap.size v0 v1 v2 p d s := ⟨h0, h1, h2⟩
 obtain ⟨A0, c0, A1, c1, A2, c2, rfl, rfl, rfl⟩ := hD.open_
 exact ⟨A0, c0, A1, c1, A2, c2, rfl, hD, hb⟩
theorem rbuild_any {W : World} {G : Nat} {cs : List S85} {k : Nat} {a : Int} {p d s : List Int} {e : Int} (hq : ROK W G cs) (hF : arbiterref15_Build.f k cs a = some (p, d, s, e)) :
  Calls Tryz.prog 27 #[.pointer (some ⟨G, 0, none⟩), .int .i64 a] W fun x w' => ∃ A0 c0 A1 c1 A2 c2,
   x = .returned (.tuple #[.agg #[.slice A0 p.length c0, .slice A1 d.length c1, .slice A2 s.length c2], .int .i64 e]) ∧ Disp w' W.heap.size (.slice A0 p.length c0) (.slice A1 d.length c1) (.slice A2 s.length c2) p d s ∧ Below W.heap.size W w' := by
 refine (arbiterref15_Build.calls k G cs a p d s e W hq hF).mono ?_; rintro x w' ⟨v0, v1, v2, rfl, h0, h1, h2, hb⟩
 have hD : Disp w' W.heap.size v0 v1 v2 p d s := ⟨h0, h1, h2⟩
 obtain ⟨A0, c0, A1, c1, A2, c2, rfl, rfl, rfl⟩ := hD.open_
 exact ⟨A0, c0, A1, c1, A2, c2, rfl, hD, hb⟩
theorem same_any {w : World} {B B' : Nat} {p d s : List Int} {A0 A1 A2 D0 D1 D2 : Option Addr} {c0 c1 c2 e0 e1 e2 k : Nat} (hS : arbiterref15_Same.f k p d s p d s = some true)
  (h : Disp w B (.slice A0 p.length c0) (.slice A1 d.length c1) (.slice A2 s.length c2) p d s) (h' : Disp w B' (.slice D0 p.length e0) (.slice D1 d.length e1) (.slice D2 s.length e2) p d s) :
  Calls Tryz.prog 29 #[.agg #[.slice A0 p.length c0, .slice A1 d.length c1, .slice A2 s.length c2], .agg #[.slice D0 p.length e0, .slice D1 d.length e1, .slice D2 s.length e2]] w fun e w' => e = .returned (.bool true) ∧ Below w.heap.size w w' := by
 obtain ⟨_, a1, a2⟩ := Kd.R_reads' h.r0; obtain ⟨_, b1, b2⟩ := Kd.R_reads' h.r1; obtain ⟨_, f1, f2⟩ := Kd.R_reads' h.r2; obtain ⟨_, a1', a2'⟩ := Kd.R_reads' h'.r0; obtain ⟨_, b1', b2'⟩ := Kd.R_reads' h'.r1; obtain ⟨_, f1', f2'⟩ := Kd.R_reads' h'.r2
 exact arbiterref15_Same.calls k A0 c0 p A1 c1 d A2 c2 s D0 e0 p D1 e1 d D2 e2 s true w a2 a1 b2 b1 f2 f1 a2' a1' b2' b1' f2' f1' hS
theorem dke_any {W : World} {A : Option Addr} {n : Nat} {l : List S85} (hk : Kd.C k85 W A l.length l) (hc : l.length ≤ n) (hg : l.all goodC = true) (a : Int) :
    Calls Tryz.prog 10 #[.slice A l.length n, .int .i64 a] W fun e W' => e = .returned (.bool true) ∧ Below W.heap.size W W' := by
  have hT := thy_made (made_built l)
  have hn := len_made (made_built l)
  obtain ⟨l1, l2, l3⟩ := build_lens hT (by omega) a
  have hB := build_tot (builtF l) hT.good.tree (by omega) (fun x hx => (hT.good.fine x hx).2.2) 30000 (by decide) a
  have hR := rbuild_ok hT (by omega) a 30000 (by omega)
  have hO : arbiterref06_Of.f l = some (csOf (builtF l)) := by unfold arbiterref06_Of.f; rw [if_pos hg]
  obtain ⟨⟨p, d, s, ec⟩, hbf⟩ : ∃ x, buildF (builtF l) a = x := ⟨_, rfl⟩
  rw [hbf] at hB hR l1 l2 l3
  simp only at l1 l2 l3
  have hS : arbiterref15_Same.f 30000 p d s p d s = some true := by
    unfold arbiterref15_Same.f
    rw [same_ok _ l1 30000 (by omega), Option.bind_some, if_pos rfl, same_ok _ l2 30000 (by omega), Option.bind_some, if_pos rfl, same_ok _ l3 30000 (by omega)]
    rfl
  have CB := Lib.hid (fun (W : World) (G : Nat) (hq : WOK W G (builtF l)) => build_ok hq hB)
  have CR := Lib.hid (fun (W : World) (G : Nat) (hq : ROK W G (csOf (builtF l))) => rbuild_any hq hR)
  have CS := Lib.hid hS
  have HK := Lib.hid hk
  have HO := Lib.hid hO
  clear hB hR hS hk hO hbf hT hn
  go_enter Tryz.func10, Tryz.ntmps10
  go_wp2_with (go_at_call 22; refine (arbiterlaw15_awake.calls true _ rfl).mono ?_; rintro e w1 ⟨rfl, hb1⟩)
  refine (arbiterlaw15_built.calls A n l (builtF l) w1 (Kd.C_below HK.out hb1) hc rfl).mono ?_
  rintro e w2 ⟨g, rfl, hq, hb2⟩
  have HQ := Lib.hid hq
  have HW := Lib.hid (hb1.trans (hb2.mono hb1.size))
  clear hq hb1 hb2
  go_wp2_with fail
  refine (CB.out _ _ HQ.out).mono ?_
  rintro e w3 ⟨A0, c0, A1, c1, A2, c2, rfl, hD3, hb3⟩
  have D3 := Lib.hid hD3
  have B3 := Lib.hid hb3
  clear hD3 hb3
  go_wp2_with fail
  -- the first display's box
  have Z6 := Lib.hid (blk_new w3 (.cells #[.slice A0 p.length c0, .slice A1 d.length c1, .slice A2 s.length c2] 51))
  have B4 := Lib.hid (B3.out.alloc B3.out.size (.cells #[.slice A0 p.length c0, .slice A1 d.length c1, .slice A2 s.length c2] 51))
  have D4 := Lib.hid (D3.out.below ((Below.refl w3.heap.size w3).alloc (Nat.le_refl _) (.cells #[.slice A0 p.length c0, .slice A1 d.length c1, .slice A2 s.length c2] 51)))
  have h34 : w3.heap.size < (w3.alloc (.cells #[.slice A0 p.length c0, .slice A1 d.length c1, .slice A2 s.length c2] 51)).heap.size := by simp
  have h3 := B3.out.size
  clear D3 B3
  generalize w3.alloc (.cells #[.slice A0 p.length c0, .slice A1 d.length c1, .slice A2 s.length c2] 51) = w4 at *
  generalize w3.heap.size = g6 at *
  have hlt4 : Hid (∀ k, ((Value.slice A0 p.length c0).ownBlock = some k ∨ (Value.slice A1 d.length c1).ownBlock = some k ∨ (Value.slice A2 s.length c2).ownBlock = some k) → k < w4.heap.size) := fun k hk => by
    rcases hk with h | h | h
    · obtain ⟨_, o⟩ := Kd.R_own D4.out.r0; exact own_lt o k h
    · obtain ⟨_, o⟩ := Kd.R_own D4.out.r1; exact own_lt o k h
    · obtain ⟨_, o⟩ := Kd.R_own D4.out.r2; exact own_lt o k h
  have HQ4 := Lib.hid (HQ.out.below B4.out)
  refine (CB.out _ _ HQ4.out).mono ?_
  rintro e w5 ⟨A3, c3, A4, c4, A5, c5, rfl, hD5, hb5⟩
  have D5 := Lib.hid hD5
  have B5 := Lib.hid (B4.out.trans (hb5.mono B4.out.size))
  replace D4 := Lib.hid (D4.out.below hb5)
  replace Z6 := Lib.hid (blk_below Z6.out hb5)
  have h45 := hb5.size
  clear hD5 hb5 B4 HQ4
  go_wp2_with fail
  have Z8 := Lib.hid (blk_new w5 (.cells #[.slice A3 p.length c3, .slice A4 d.length c4, .slice A5 s.length c5] 51))
  have hal := (Below.refl w5.heap.size w5).alloc (Nat.le_refl _) (.cells #[.slice A3 p.length c3, .slice A4 d.length c4, .slice A5 s.length c5] 51)
  have B6 := Lib.hid (B5.out.trans (hal.mono B5.out.size))
  replace D4 := Lib.hid (D4.out.below hal)
  have D6 := Lib.hid (D5.out.below hal)
  replace Z6 := Lib.hid (blk_below Z6.out hal)
  have h56 : w5.heap.size < (w5.alloc (.cells #[.slice A3 p.length c3, .slice A4 d.length c4, .slice A5 s.length c5] 51)).heap.size := by simp
  clear hal D5 B5
  generalize w5.alloc (.cells #[.slice A3 p.length c3, .slice A4 d.length c4, .slice A5 s.length c5] 51) = w6 at *
  generalize w5.heap.size = g8 at *
  have hlt6 : Hid (∀ k, ((Value.slice A3 p.length c3).ownBlock = some k ∨ (Value.slice A4 d.length c4).ownBlock = some k ∨ (Value.slice A5 s.length c5).ownBlock = some k) → k < w6.heap.size) := fun k hk => by
    rcases hk with h | h | h
    · obtain ⟨_, o⟩ := Kd.R_own D6.out.r0; exact own_lt o k h
    · obtain ⟨_, o⟩ := Kd.R_own D6.out.r1; exact own_lt o k h
    · obtain ⟨_, o⟩ := Kd.R_own D6.out.r2; exact own_lt o k h
  refine (arbiterref06_Of.calls A n l _ w6 (Kd.C_below HK.out (HW.out.trans (B6.out.mono HW.out.size))) hc HO.out).mono ?_
  rintro e w7 ⟨gr, rfl, hro, hb7⟩
  have HRO := Lib.hid hro
  have B7 := Lib.hid (B6.out.trans (hb7.mono B6.out.size))
  replace D4 := Lib.hid (D4.out.below hb7)
  replace D6 := Lib.hid (D6.out.below hb7)
  replace Z6 := Lib.hid (blk_below Z6.out hb7)
  replace Z8 := Lib.hid (blk_below Z8.out hb7)
  have h67 := hb7.size
  clear hro hb7 B6
  go_wp2_with fail
  refine (CR.out _ _ HRO.out).mono ?_
  rintro e w8 ⟨D0, e0, D1, e1, D2, e2, rfl, hD8, hb8⟩
  have D8 := Lib.hid hD8
  have B8 := Lib.hid (B7.out.trans (hb8.mono B7.out.size))
  replace D4 := Lib.hid (D4.out.below hb8)
  replace D6 := Lib.hid (D6.out.below hb8)
  replace Z6 := Lib.hid (blk_below Z6.out hb8)
  replace Z8 := Lib.hid (blk_below Z8.out hb8)
  have h78 := hb8.size
  clear hD8 hb8 B7 HRO
  have Z10 := Lib.hid (blk_new w8 (.cells #[.slice D0 p.length e0, .slice D1 d.length e1, .slice D2 s.length e2] 51))
  have hal := (Below.refl w8.heap.size w8).alloc (Nat.le_refl _) (.cells #[.slice D0 p.length e0, .slice D1 d.length e1, .slice D2 s.length e2] 51)
  have B9 := Lib.hid (B8.out.trans (hal.mono B8.out.size))
  replace D4 := Lib.hid (D4.out.below hal)
  replace D6 := Lib.hid (D6.out.below hal)
  replace D8 := Lib.hid (D8.out.below hal)
  replace Z6 := Lib.hid (blk_below Z6.out hal)
  replace Z8 := Lib.hid (blk_below Z8.out hal)
  have h89 : w8.heap.size < (w8.alloc (.cells #[.slice D0 p.length e0, .slice D1 d.length e1, .slice D2 s.length e2] 51)).heap.size := by simp
  have a0 := (blk_cell Z6.out 0).trans rfl
  have a1 := (blk_cell Z6.out 1).trans rfl
  have a2 := (blk_cell Z6.out 2).trans rfl
  have b0 := (blk_cell Z8.out 0).trans rfl
  have b1 := (blk_cell Z8.out 1).trans rfl
  have b2 := (blk_cell Z8.out 2).trans rfl
  have f0 := (blk_cell Z10.out 0).trans rfl
  have f1 := (blk_cell Z10.out 1).trans rfl
  have f2 := (blk_cell Z10.out 2).trans rfl
  clear hal B8
  go_wp2_with fail
  generalize w8.alloc (.cells #[.slice D0 p.length e0, .slice D1 d.length e1, .slice D2 s.length e2] 51) = w9 at *
  generalize w8.heap.size = g10 at *
  refine (same_any CS.out D4.out D8.out).mono ?_
  rintro e w10 ⟨rfl, hb10⟩
  replace D4 := Lib.hid (D4.out.below hb10)
  replace D6 := Lib.hid (D6.out.below hb10)
  replace D8 := Lib.hid (D8.out.below hb10)
  have Z10b := Lib.hid (blk_below Z10.out hb10)
  have B10 := Lib.hid (B9.out.trans (hb10.mono B9.out.size))
  have h910 := hb10.size
  replace a0 := bl_cell hb10 a0
  replace a1 := bl_cell hb10 a1
  replace a2 := bl_cell hb10 a2
  replace b0 := bl_cell hb10 b0
  replace b1 := bl_cell hb10 b1
  replace b2 := bl_cell hb10 b2
  replace f0 := bl_cell hb10 f0
  replace f1 := bl_cell hb10 f1
  replace f2 := bl_cell hb10 f2
  clear hb10 B9 Z10
  go_wp2_with fail
  refine (same_any CS.out D6.out D8.out).mono ?_
  rintro e w11 ⟨rfl, hb11⟩
  replace D4 := Lib.hid (D4.out.below hb11)
  replace D6 := Lib.hid (D6.out.below hb11)
  replace D8 := Lib.hid (D8.out.below hb11)
  have Z11 := Lib.hid (blk_below Z10b.out hb11)
  have B11 := Lib.hid (B10.out.trans (hb11.mono B10.out.size))
  have h1011 := hb11.size
  replace a0 := bl_cell hb11 a0
  replace a1 := bl_cell hb11 a1
  replace a2 := bl_cell hb11 a2
  replace b0 := bl_cell hb11 b0
  replace b1 := bl_cell hb11 b1
  replace b2 := bl_cell hb11 b2
  clear hb11 B10 Z10b f0 f1 f2
  go_wp2_with fail
  have hal := (Below.refl w11.heap.size w11).alloc (Nat.le_refl _) (.cells #[.slice A0 p.length c0, .slice A1 d.length c1, .slice A2 s.length c2, .slice A3 p.length c3, .slice A4 d.length c4, .slice A5 s.length c5] 49)
  have B12 := Lib.hid (B11.out.trans (hal.mono B11.out.size))
  replace D4 := Lib.hid (D4.out.below hal)
  replace D6 := Lib.hid (D6.out.below hal)
  replace D8 := Lib.hid (D8.out.below hal)
  have Z12 := Lib.hid (blk_below Z11.out hal)
  have hz12 : (w11.alloc (.cells #[.slice A0 p.length c0, .slice A1 d.length c1, .slice A2 s.length c2, .slice A3 p.length c3, .slice A4 d.length c4, .slice A5 s.length c5] 49)).heap.size = w11.heap.size + 1 := by simp
  have hrow : Hid (∀ i, i < 6 → (w11.alloc (.cells #[.slice A0 p.length c0, .slice A1 d.length c1, .slice A2 s.length c2, .slice A3 p.length c3, .slice A4 d.length c4, .slice A5 s.length c5] 49)).cell? ⟨w11.heap.size, i, none⟩ = some (six (Value.slice A0 p.length c0) (.slice A1 d.length c1) (.slice A2 s.length c2) (.slice A3 p.length c3) (.slice A4 d.length c4) (.slice A5 s.length c5) i)) := fun i hi => by
    rw [cell_new]
    match i, hi with
    | 0, _ => rfl
    | 1, _ => rfl
    | 2, _ => rfl
    | 3, _ => rfl
    | 4, _ => rfl
    | 5, _ => rfl
  clear hal B11 Z11 a0 a1 a2 b0 b1 b2
  generalize w11.alloc (.cells #[.slice A0 p.length c0, .slice A1 d.length c1, .slice A2 s.length c2, .slice A3 p.length c3, .slice A4 d.length c4, .slice A5 s.length c5] 49) = w12 at *
  obtain ⟨xs, HF⟩ := fam6 D4.out D6.out (Nat.le_refl _) (by omega : w2.heap.size ≤ w4.heap.size) hlt4.out
  have hown : Hid (∀ i k, i < 6 → (six (Value.slice A0 p.length c0) (.slice A1 d.length c1) (.slice A2 s.length c2) (.slice A3 p.length c3) (.slice A4 d.length c4) (.slice A5 s.length c5) i).ownBlock = some k → w2.heap.size ≤ k ∧ k < w6.heap.size) := fun i k hi hk => by
    refine ⟨own_base (HF.row i hi) k hk, ?_⟩
    have q4 := hlt4.out
    have q6 := hlt6.out
    match i, hi, hk with
    | 0, _, hk => have := q4 k (.inl hk); omega
    | 1, _, hk => have := q4 k (.inr (.inl hk)); omega
    | 2, _, hk => have := q4 k (.inr (.inr hk)); omega
    | 3, _, hk => exact q6 k (.inl hk)
    | 4, _, hk => exact q6 k (.inr (.inl hk))
    | 5, _, hk => exact q6 k (.inr (.inr hk))
  refine (numsApart_any w12 w2.heap.size 6 w11.heap.size 6 _ _ xs HF hrow.out (fun i hi e => by have := (hown.out i _ hi e).2; omega) (by omega) (by decide) (fun i hi => ?_) B12.out.size).mono ?_
  · match i, hi with
    | 0, _ => show p.length ≤ _; omega
    | 1, _ => show d.length ≤ _; omega
    | 2, _ => show s.length ≤ _; omega
    | 3, _ => show p.length ≤ _; omega
    | 4, _ => show d.length ≤ _; omega
    | 5, _ => show s.length ≤ _; omega
  rintro e w13 ⟨rfl, hsp⟩
  have B13 := Lib.hid (B12.out.trans (hsp.toBelow B12.out.size (fun i k hi hk => (hown.out i k hi hk).1)))
  have D13 := Lib.hid (D8.out.spared hsp (fun i k hi hk => by have := (hown.out i k hi hk).2; omega))
  have Z13 := Lib.hid ((hsp.block g10 (blk_lt Z12.out) (fun i hi e => by have := (hown.out i _ hi e).2; omega)).trans Z12.out)
  have h1213 := hsp.size
  clear hsp HF hrow hown D4 D6 D8 Z12 B12 hlt4 hlt6 Z6 Z8
  have HQ13 := Lib.hid (HQ.out.below B13.out)
  go_wp2_with fail
  refine (CB.out _ _ HQ13.out).mono ?_
  rintro e w14 ⟨A6, c6, A7, c7, A8, c8, rfl, hD14, hb14⟩
  have hal := (Below.refl w14.heap.size w14).alloc (Nat.le_refl _) (.cells #[.slice A6 p.length c6, .slice A7 d.length c7, .slice A8 s.length c8] 51)
  have B15 := Lib.hid ((B13.out.trans (hb14.mono B13.out.size)).trans (hal.mono (Nat.le_trans B13.out.size hb14.size)))
  have E15 := Lib.hid (hD14.below hal)
  have D15 := Lib.hid ((D13.out.below hb14).below hal)
  have Y15 := Lib.hid (blk_new w14 (.cells #[.slice A6 p.length c6, .slice A7 d.length c7, .slice A8 s.length c8] 51))
  have Z15 := Lib.hid (blk_below (blk_below Z13.out hb14) hal)
  clear hal hD14 hb14 B13 D13 Z13 HQ13
  go_wp2_with fail
  generalize w14.alloc (.cells #[.slice A6 p.length c6, .slice A7 d.length c7, .slice A8 s.length c8] 51) = w15 at *
  generalize w14.heap.size = g12 at *
  refine (display_Build_nil 0 w15).mono ?_
  rintro e w16 ⟨rfl, hb16⟩
  go_wp2_with fail
  have hal := (Below.refl w16.heap.size w16).alloc (Nat.le_refl _) (.cells #[.slice none 0 0, .slice none 0 0, .slice none 0 0] 51)
  have hb := hb16.trans (hal.mono hb16.size)
  have B17 := Lib.hid (B15.out.trans (hb.mono B15.out.size))
  have E17 := Lib.hid (E15.out.below hb)
  have D17 := Lib.hid (D15.out.below hb)
  have Y17 := Lib.hid (blk_below Y15.out hb)
  have Z17 := Lib.hid (blk_below Z15.out hb)
  clear hal hb hb16 B15 E15 D15 Y15 Z15
  generalize w16.alloc (.cells #[.slice none 0 0, .slice none 0 0, .slice none 0 0] 51) = w17 at *
  generalize w16.heap.size = g14 at *
  refine (display_Test_nil 0 0 w17).mono ?_
  rintro e w18 ⟨rfl, hb18⟩
  have B18 := Lib.hid (B17.out.trans (hb18.mono B17.out.size))
  have E18 := Lib.hid (E17.out.below hb18)
  have D18 := Lib.hid (D17.out.below hb18)
  have Y18 := Lib.hid (blk_below Y17.out hb18)
  have Z18 := Lib.hid (blk_below Z17.out hb18)
  clear hb18 B17 E17 D17 Y17 Z17
  go_wp2_with fail
  refine (display_TestTypes_nil 0 ⟨#[]⟩ 0 ⟨#[]⟩ w18).mono ?_
  rintro e w19 ⟨rfl, hb19⟩
  have B19 := Lib.hid (B18.out.trans (hb19.mono B18.out.size))
  have E19 := Lib.hid (E18.out.below hb19)
  have D19 := Lib.hid (D18.out.below hb19)
  have Y19 := Lib.hid (blk_below Y18.out hb19)
  have Z19 := Lib.hid (blk_below Z18.out hb19)
  clear hb19 B18 E18 D18 Y18 Z18
  go_wp2_with fail
  refine (display_Deepest_nil w19).mono ?_
  rintro e w20 ⟨rfl, hb20⟩
  have B20 := Lib.hid (B19.out.trans (hb20.mono B19.out.size))
  have E20 := Lib.hid (E19.out.below hb20)
  have D20 := Lib.hid (D19.out.below hb20)
  have Y20 := Lib.hid (blk_below Y19.out hb20)
  have Z20 := Lib.hid (blk_below Z19.out hb20)
  clear hb20 B19 E19 D19 Y19 Z19
  have a0 := (blk_cell Y20.out 0).trans rfl
  have a1 := (blk_cell Y20.out 1).trans rfl
  have a2 := (blk_cell Y20.out 2).trans rfl
  have f0 := (blk_cell Z20.out 0).trans rfl
  have f1 := (blk_cell Z20.out 1).trans rfl
  have f2 := (blk_cell Z20.out 2).trans rfl
  go_wp2_with fail
  refine (same_any CS.out E20.out D20.out).mono ?_
  rintro e w21 ⟨rfl, hb21⟩
  have B21 := Lib.hid (B20.out.trans (hb21.mono B20.out.size))
  clear hb21 B20 a0 a1 a2 f0 f1 f2
  go_wp2_with fail
  go_ret
  exact ⟨rfl, HW.out.trans (B21.out.mono HW.out.size)⟩
#print axioms dke_any
end Go.Proofs.YtaipkdglhfhhiaaGreatDoor.Pt

namespace Go.Proofs.YtaipkdglhfhhiaaGreatDoor.RowC
open Go Go.RowKit Go.WideShapes Go.Deep Go.Proofs.YtaipkdglhfhhiaaGreatDoorW.PrintWords Go.Proofs.YtaipkdglhfhhiaaGreatDoorW.PrintLast Go.Proofs.YtaipkdglhfhhiaaGreatDoorW.PrintMore Go.Proofs.YtaipkdglhfhhiaaGreatDoor.Pt
set_option linter.unusedVariables false
set_option linter.unusedSimpArgs false
set_option maxRecDepth 100000
variable {H : Type} {enc : TypeId × Value → H} {w : World}
def Opens {H : Type} (enc : TypeId × Value → H) (w : World) (t : TypeId) {α : Type} (d : Kd α) : Prop :=
 ∀ (fuel : Nat) (cs : List Value) (x : DataW H × List MemPlace), DataW.trod enc Tryz.prog w 0 (fun _ => true) true fuel t cs = some x → ∃ a : α, d.K w a cs
theorem opens_int : Opens enc w 3 (Kd.int .i64) := fun fuel cs x h => by
 obtain ⟨n, rfl, _⟩ := DataW.trod_int Tryz.underlying3 h
 exact ⟨n, rfl⟩
theorem opens_bool : Opens enc w 4 Kd.bool := fun fuel cs x h => by
 obtain ⟨n, rfl, _⟩ := DataW.trod_bool Tryz.underlying4 h
 exact ⟨n, rfl⟩
theorem opens_string : Opens enc w 9 Kd.string := fun fuel cs x h => by
 obtain ⟨n, rfl, _⟩ := DataW.trod_string Tryz.underlying9 h
 exact ⟨n, rfl⟩
theorem opens_slice {α : Type} {d : Kd α} {t e : TypeId} (tag : Nat) (ht : Tryz.prog.underlying t = some (.slice e)) (he : Tryz.prog.cellsOf e = d.sz) (ho : Opens enc w e d) : Opens enc w t (Kd.slice tag d) := fun fuel cs x h => by
 rcases open_slice ht h with ⟨rfl, _⟩ | ⟨a, len, cap, m, n, D, Pl, rfl, _, hl, hm, hmm, _, hx⟩
 ·exact ⟨[], none, 0, rfl, Nat.le_refl _, Kd.C_nil _ _⟩
 ·have hmm : m = cap := by simpa using hmm
  have hel : ∀ i : Fin len, ∃ p : α, ∃ c : List Value, c.length = d.sz ∧ d.K w p c ∧ ∀ j u, c[j]? = some u → w.cell? (a.add (i.val * d.sz + j)) = some u := by
   intro i; obtain ⟨cs', h1, h2⟩ := hx i.val (by omega); obtain ⟨p, hp⟩ := ho _ _ _ h2; obtain ⟨_, h3, h4⟩ := World.cells?_some h1; rw [he] at h3 h4; refine ⟨p, cs', h3, hp, fun j u hj => ?_⟩
   have hjl : j < d.sz := by
    rcases Nat.lt_or_ge j d.sz with h | h
    ·exact h
    ·rw [List.getElem?_eq_none (by omega)] at hj; cases hj
   have h5 := h4 j hjl; rw [hj] at h5; rw [← h5]; rw [Addr.add_add]
  let f : Fin len → α := fun i => Classical.choose (hel i)
  have hf : ∀ i : Fin len, ∃ c : List Value, c.length = d.sz ∧ d.K w (f i) c ∧ ∀ j u, c[j]? = some u → w.cell? (a.add (i.val * d.sz + j)) = some u := fun i => Classical.choose_spec (hel i); have hlen : (List.ofFn f).length = len := List.length_ofFn; refine ⟨List.ofFn f, some a, cap, by rw [hlen], by omega, ?_⟩; rw [hlen]; refine ⟨hlen, by unfold maxLen at hm; omega, fun h0 => ⟨a, rfl, fun j p hj => ?_⟩⟩
  have hjl : j < len := by
   rcases Nat.lt_or_ge j len with h | h
   ·exact h
   ·rw [List.getElem?_eq_none (by omega)] at hj; cases hj
  rw [List.getElem?_eq_getElem (by omega), List.getElem_ofFn] at hj; obtain rfl := Option.some.inj hj
  exact hf ⟨j, hjl⟩
theorem cut (cs : List Value) (o n : Nat) : cs.drop o = (cs.drop o).take n ++ cs.drop (o + n) := by
 rw [← List.drop_drop, List.take_append_drop]
theorem field {n : Nat} {fs : Array Field} {cs : List Value} {xs : List (DataW H × List MemPlace)} (hlen : xs.length = fs.size)
  (hf : ∀ (i : Nat) (f : Field), fs[i]? = some f → DataW.trod enc Tryz.prog w 0 (fun _ => true) true n f.type ((cs.drop f.offset).take (Tryz.prog.cellsOf f.type)) = xs[i]?) {α : Type} {d : Kd α} (i : Nat) (f : Field) (hi : fs[i]? = some f) (ho : Opens enc w f.type d) (k : Nat) (hk : Tryz.prog.cellsOf f.type = k) :
  ∃ a : α, d.K w a ((cs.drop f.offset).take k) := by
 have hl : i < fs.size := by
  rcases Nat.lt_or_ge i fs.size with h | h
  ·exact h
  ·rw [Array.getElem?_eq_none h] at hi; cases hi
 have h := hf i f hi; rw [hk, List.getElem?_eq_getElem (by omega)] at h
 exact ho _ _ _ h
theorem opens_Ref : Opens enc w 141 k141 := fun fuel cs x h => by
 obtain ⟨xs, n, _, _, hl, hlen, hf⟩ := DataW.trod_struct Tryz.underlying141 h; rw [show Tryz.prog.cellsOf 141 = 4 by kernel_rfl] at hl; obtain ⟨a0, e0⟩ := field hlen hf 0 _ rfl opens_bool 1 (by kernel_rfl); obtain ⟨a1, e1⟩ := field hlen hf 1 _ rfl opens_string 1 (by kernel_rfl); obtain ⟨a2, e2⟩ := field hlen hf 2 _ rfl opens_string 1 (by kernel_rfl); obtain ⟨a3, e3⟩ := field hlen hf 3 _ rfl opens_string 1 (by kernel_rfl); refine ⟨⟨a0, a1, a2, a3⟩, _, _, cut cs 0 1, e0, _, _, cut cs 1 1, e1, _, _, cut cs 2 1, e2, ?_⟩; rw [List.take_of_length_le (by simp; omega)] at e3
 exact e3
theorem opens_Inst : Opens enc w 143 k143 := fun fuel cs x h => by
 obtain ⟨xs, n, _, _, hl, hlen, hf⟩ := DataW.trod_struct Tryz.underlying143 h; rw [show Tryz.prog.cellsOf 143 = 7 by kernel_rfl] at hl; obtain ⟨a0, e0⟩ := field hlen hf 0 _ rfl opens_int 1 (by kernel_rfl); obtain ⟨a1, e1⟩ := field hlen hf 1 _ rfl opens_int 1 (by kernel_rfl); obtain ⟨a2, e2⟩ := field hlen hf 2 _ rfl opens_string 1 (by kernel_rfl); obtain ⟨a3, e3⟩ := field hlen hf 3 _ rfl opens_Ref 4 (by kernel_rfl); refine ⟨⟨a0, a1, a2, a3⟩, _, _, cut cs 0 1, e0, _, _, cut cs 1 1, e1, _, _, cut cs 2 1, e2, ?_⟩; rw [List.take_of_length_le (by simp; omega)] at e3
 exact e3
theorem opens_Method : Opens enc w 105 k105 := fun fuel cs x h => by
 obtain ⟨xs, n, _, _, hl, hlen, hf⟩ := DataW.trod_struct Tryz.underlying105 h; rw [show Tryz.prog.cellsOf 105 = 6 by kernel_rfl] at hl; obtain ⟨a0, e0⟩ := field hlen hf 0 _ rfl opens_string 1 (by kernel_rfl); obtain ⟨a1, e1⟩ := field hlen hf 1 _ rfl opens_string 1 (by kernel_rfl); obtain ⟨a2, e2⟩ := field hlen hf 2 _ rfl opens_int 1 (by kernel_rfl); obtain ⟨a3, e3⟩ := field hlen hf 3 _ rfl opens_int 1 (by kernel_rfl); obtain ⟨a4, e4⟩ := field hlen hf 4 _ rfl opens_int 1 (by kernel_rfl); obtain ⟨a5, e5⟩ := field hlen hf 5 _ rfl (opens_slice 143 Tryz.underlying103 (by kernel_rfl) opens_Inst) 1 (by kernel_rfl); refine ⟨⟨a0, a1, a2, a3, a4, a5⟩, _, _, cut cs 0 1, e0, _, _, cut cs 1 1, e1, _, _, cut cs 2 1, e2, _, _, cut cs 3 1, e3, _, _, cut cs 4 1, e4, ?_⟩; rw [List.take_of_length_le (by simp; omega)] at e5
 exact e5
theorem opens_Class : Opens enc w 85 k85 := fun fuel cs x h => by
 obtain ⟨xs, n, _, _, hl, hlen, hf⟩ := DataW.trod_struct Tryz.underlying85 h; rw [show Tryz.prog.cellsOf 85 = 6 by kernel_rfl] at hl; obtain ⟨a0, e0⟩ := field hlen hf 0 _ rfl opens_string 1 (by kernel_rfl); obtain ⟨a1, e1⟩ := field hlen hf 1 _ rfl opens_string 1 (by kernel_rfl); obtain ⟨a2, e2⟩ := field hlen hf 2 _ rfl (opens_slice 9 Tryz.underlying82 (by kernel_rfl) opens_string) 1 (by kernel_rfl); obtain ⟨a3, e3⟩ := field hlen hf 3 _ rfl opens_int 1 (by kernel_rfl); obtain ⟨a4, e4⟩ := field hlen hf 4 _ rfl opens_int 1 (by kernel_rfl); obtain ⟨a5, e5⟩ := field hlen hf 5 _ rfl (opens_slice 105 Tryz.underlying83 (by kernel_rfl) opens_Method) 1 (by kernel_rfl); refine ⟨⟨a0, a1, a2, a3, a4, a5⟩, _, _, cut cs 0 1, e0, _, _, cut cs 1 1, e1, _, _, cut cs 2 1, e2, _, _, cut cs 3 1, e3, _, _, cut cs 4 1, e4, ?_⟩; rw [List.take_of_length_le (by simp; omega)] at e5
 exact e5
theorem open_list {base : Nat} {R : Reach} {v : Value} {d : DataW H} {p : List MemPlace} (hv : Value.okWide Tryz.prog w R base 22 v) (h : DataW.Trod enc Tryz.prog w 0 (fun _ => true) true 22 v d p) :
  ∃ (A : Option Addr) (c : Nat) (l : List S85), v = .slice A l.length c ∧ l.length ≤ c ∧ Kd.C k85 w A l.length l := by
 obtain ⟨a, len, cap, rfl⟩ := okWide_slice Tryz.underlying22 hv; obtain ⟨fuel, hf⟩ := h; obtain ⟨l, A, c, e, hc, hk⟩ := opens_slice 85 Tryz.underlying22 (by kernel_rfl) opens_Class _ _ _ hf; have e : [Value.slice a len cap] = [.slice A l.length c] := e
 obtain ⟨rfl, rfl, rfl⟩ : a = A ∧ len = l.length ∧ cap = c := by simpa using e
 exact ⟨_, _, l, rfl, hc, hk⟩
end Go.Proofs.YtaipkdglhfhhiaaGreatDoor.RowC

namespace Go.Proofs.YtaipkdglhfhhiaaGreatDoor.RowR
open Go Go.RowKit Go.WideShapes Go.Deep Go.Proofs.YtaipkdglhfhhiaaGreatDoorW.PrintWords Go.Proofs.YtaipkdglhfhhiaaGreatDoorW.PrintLast Go.Proofs.YtaipkdglhfhhiaaGreatDoorW.PrintMore Go.Proofs.YtaipkdglhfhhiaaGreatDoor.Pt Go.Proofs.YtaipkdglhfhhiaaGreatDoor.RowC
set_option linter.unusedVariables false
set_option linter.unusedSimpArgs false
set_option maxRecDepth 100000
variable {H : Type} {enc : TypeId × Value → H} {w : World}
theorem inRB_wf {f : Int} (h : (Lit.int .i64 f).wf = true) : inRB f = true := by
 have this : IntKind.i64.min ≤ f ∧ f ≤ 9223372036854775807 := by simpa [Lit.wf] using h
 replace this : -9223372036854775808 ≤ f ∧ f ≤ 9223372036854775807 := this; unfold inRB; rw [decide_eq_true this.1, decide_eq_true this.2]; rfl
def OpensP {H : Type} (enc : TypeId × Value → H) (w : World) (t : TypeId) {α : Type} (d : Kd α) (P : α → Prop) : Prop :=
 ∀ (fuel : Nat) (cs : List Value) (x : DataW H × List MemPlace), DataW.trod enc Tryz.prog w 0 (fun _ => true) true fuel t cs = some x → ∃ a : α, d.K w a cs ∧ P a
theorem opensP_int : OpensP enc w 3 (Kd.int .i64) (fun n => inRB n = true) := fun fuel cs x h => by
 obtain ⟨n, rfl, _, hw⟩ := DataW.trod_int Tryz.underlying3 h
 exact ⟨n, rfl, inRB_wf hw⟩
theorem opensP_slice {α : Type} {d : Kd α} {P : α → Prop} {t e : TypeId} (tag : Nat) (ht : Tryz.prog.underlying t = some (.slice e)) (he : Tryz.prog.cellsOf e = d.sz) (ho : OpensP enc w e d P) : OpensP enc w t (Kd.slice tag d) (fun l => ∀ a ∈ l, P a) := fun fuel cs x h => by
 rcases open_slice ht h with ⟨rfl, _⟩ | ⟨a, len, cap, m, n, D, Pl, rfl, _, hl, hm, hmm, _, hx⟩
 ·exact ⟨[], ⟨none, 0, rfl, Nat.le_refl _, Kd.C_nil _ _⟩, fun a ha => by cases ha⟩
 ·have hmm : m = cap := by simpa using hmm
  have hel : ∀ i : Fin len, ∃ p : α, (∃ c : List Value, c.length = d.sz ∧ d.K w p c ∧ ∀ j u, c[j]? = some u → w.cell? (a.add (i.val * d.sz + j)) = some u) ∧ P p := by
   intro i; obtain ⟨cs', h1, h2⟩ := hx i.val (by omega); obtain ⟨p, hp, hq⟩ := ho _ _ _ h2; obtain ⟨_, h3, h4⟩ := World.cells?_some h1; rw [he] at h3 h4; refine ⟨p, ⟨cs', h3, hp, fun j u hj => ?_⟩, hq⟩
   have hjl : j < d.sz := by
    rcases Nat.lt_or_ge j d.sz with h | h
    ·exact h
    ·rw [List.getElem?_eq_none (by omega)] at hj; cases hj
   have h5 := h4 j hjl; rw [hj] at h5; rw [← h5]; rw [Addr.add_add]
  let f : Fin len → α := fun i => Classical.choose (hel i)
  have hf : ∀ i : Fin len, (∃ c : List Value, c.length = d.sz ∧ d.K w (f i) c ∧ ∀ j u, c[j]? = some u → w.cell? (a.add (i.val * d.sz + j)) = some u) ∧ P (f i) := fun i => Classical.choose_spec (hel i); have hlen : (List.ofFn f).length = len := List.length_ofFn; refine ⟨List.ofFn f, ⟨some a, cap, by rw [hlen], by omega, ?_⟩, fun p hp => ?_⟩
  ·rw [hlen]
   refine ⟨hlen, by unfold maxLen at hm; omega, fun h0 => ⟨a, rfl, fun j p hj => ?_⟩⟩
   have hjl : j < len := by
    rcases Nat.lt_or_ge j len with h | h
    ·exact h
    ·rw [List.getElem?_eq_none (by omega)] at hj; cases hj
   rw [List.getElem?_eq_getElem (by omega), List.getElem_ofFn] at hj; obtain rfl := Option.some.inj hj
   exact (hf ⟨j, hjl⟩).1
  ·obtain ⟨i, rfl⟩ := (List.mem_ofFn).1 hp
   exact (hf i).2
theorem fieldP {n : Nat} {fs : Array Field} {cs : List Value} {xs : List (DataW H × List MemPlace)} (hlen : xs.length = fs.size)
  (hf : ∀ (i : Nat) (f : Field), fs[i]? = some f → DataW.trod enc Tryz.prog w 0 (fun _ => true) true n f.type ((cs.drop f.offset).take (Tryz.prog.cellsOf f.type)) = xs[i]?) {α : Type} {d : Kd α} {P : α → Prop} (i : Nat) (f : Field) (hi : fs[i]? = some f) (ho : OpensP enc w f.type d P) (k : Nat) (hk : Tryz.prog.cellsOf f.type = k) :
  ∃ a : α, d.K w a ((cs.drop f.offset).take k) ∧ P a := by
 have hl : i < fs.size := by
  rcases Nat.lt_or_ge i fs.size with h | h
  ·exact h
  ·rw [Array.getElem?_eq_none h] at hi; cases hi
 have h := hf i f hi; rw [hk, List.getElem?_eq_getElem (by omega)] at h
 exact ho _ _ _ h
theorem opensP_Method : OpensP enc w 105 k105 (fun m => inRB m.f2 = true) := fun fuel cs x h => by
 obtain ⟨xs, n, _, _, hl, hlen, hf⟩ := DataW.trod_struct Tryz.underlying105 h; rw [show Tryz.prog.cellsOf 105 = 6 by kernel_rfl] at hl; obtain ⟨a0, e0⟩ := field hlen hf 0 _ rfl opens_string 1 (by kernel_rfl); obtain ⟨a1, e1⟩ := field hlen hf 1 _ rfl opens_string 1 (by kernel_rfl); obtain ⟨a2, e2, p2⟩ := fieldP hlen hf 2 _ rfl opensP_int 1 (by kernel_rfl); obtain ⟨a3, e3⟩ := field hlen hf 3 _ rfl opens_int 1 (by kernel_rfl); obtain ⟨a4, e4⟩ := field hlen hf 4 _ rfl opens_int 1 (by kernel_rfl); obtain ⟨a5, e5⟩ := field hlen hf 5 _ rfl (opens_slice 143 Tryz.underlying103 (by kernel_rfl) opens_Inst) 1 (by kernel_rfl); refine ⟨⟨a0, a1, a2, a3, a4, a5⟩, ⟨_, _, cut cs 0 1, e0, _, _, cut cs 1 1, e1, _, _, cut cs 2 1, e2, _, _, cut cs 3 1, e3, _, _, cut cs 4 1, e4, ?_⟩, p2⟩; rw [List.take_of_length_le (by simp; omega)] at e5
 exact e5
theorem opensP_Class : OpensP enc w 85 k85 (fun c => goodC c = true) := fun fuel cs x h => by
 obtain ⟨xs, n, _, _, hl, hlen, hf⟩ := DataW.trod_struct Tryz.underlying85 h; rw [show Tryz.prog.cellsOf 85 = 6 by kernel_rfl] at hl; obtain ⟨a0, e0⟩ := field hlen hf 0 _ rfl opens_string 1 (by kernel_rfl); obtain ⟨a1, e1⟩ := field hlen hf 1 _ rfl opens_string 1 (by kernel_rfl); obtain ⟨a2, e2⟩ := field hlen hf 2 _ rfl (opens_slice 9 Tryz.underlying82 (by kernel_rfl) opens_string) 1 (by kernel_rfl); obtain ⟨a3, e3, p3⟩ := fieldP hlen hf 3 _ rfl opensP_int 1 (by kernel_rfl); obtain ⟨a4, e4⟩ := field hlen hf 4 _ rfl opens_int 1 (by kernel_rfl); obtain ⟨a5, e5, p5⟩ := fieldP hlen hf 5 _ rfl (opensP_slice 105 Tryz.underlying83 (by kernel_rfl) opensP_Method) 1 (by kernel_rfl); refine ⟨⟨a0, a1, a2, a3, a4, a5⟩, ⟨_, _, cut cs 0 1, e0, _, _, cut cs 1 1, e1, _, _, cut cs 2 1, e2, _, _, cut cs 3 1, e3, _, _, cut cs 4 1, e4, ?_⟩, ?_⟩
 ·rw [List.take_of_length_le (by simp; omega)] at e5
  exact e5
 ·show goodC _ = true
  unfold goodC; rw [Bool.and_eq_true, List.all_eq_true]
  exact ⟨p3, p5⟩
theorem open_list {base : Nat} {R : Reach} {v : Value} {d : DataW H} {p : List MemPlace} (hv : Value.okWide Tryz.prog w R base 22 v) (h : DataW.Trod enc Tryz.prog w 0 (fun _ => true) true 22 v d p) :
  ∃ (A : Option Addr) (c : Nat) (l : List S85), v = .slice A l.length c ∧ l.length ≤ c ∧ Kd.C k85 w A l.length l ∧ l.all goodC = true := by
 obtain ⟨a, len, cap, rfl⟩ := okWide_slice Tryz.underlying22 hv; obtain ⟨fuel, hf⟩ := h; obtain ⟨l, ⟨A, c, e, hc, hk⟩, hp⟩ := opensP_slice 85 Tryz.underlying22 (by kernel_rfl) opensP_Class _ _ _ hf; have e : [Value.slice a len cap] = [.slice A l.length c] := e
 obtain ⟨rfl, rfl, rfl⟩ : a = A ∧ len = l.length ∧ cap = c := by simpa using e
 exact ⟨_, _, l, rfl, hc, hk, List.all_eq_true.2 hp⟩
end Go.Proofs.YtaipkdglhfhhiaaGreatDoor.RowR
