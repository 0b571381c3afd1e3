/- Lemmas and contracts for the statement of PwDisplayTests: joined by program out of this session's texts. -/
import Derived.Test.YtaipkdglhfhhiaaGreatDoorBdPwDisplayTests5
import Derived.Deep.RegionHeld3
import Derived.Outline
import Derived.Deep.Slices
import Derived.WideShapes
namespace Go.Proofs.YtaipkdglhfhhiaaGreatDoor.Hi
open Go Go.RowKit Go.Proofs.YtaipkdglhfhhiaaGreatDoorW.PrintWords Go.Proofs.YtaipkdglhfhhiaaGreatDoorW.PrintLast Go.Proofs.YtaipkdglhfhhiaaGreatDoorW.PrintMore Go.Proofs.YtaipkdglhfhhiaaGreatDoor.Pt
set_option linter.unusedVariables false
set_option linter.unusedSimpArgs false
set_option maxHeartbeats 4000000
set_option maxRecDepth 100000
def zRaw : RawM := ⟨⟨#[]⟩, ⟨#[]⟩, 0, 0, 0, (none, 0, 0)⟩
theorem raw_M {w : World} {base : Nat} {ok : Nat → Prop} (y : RawM) : kRawM.M w base ok y [.string y.f0, .string y.f1, .int .i64 y.f2, .int .i64 y.f3, .int .i64 y.f4, .slice y.sl.1 y.sl.2.1 y.sl.2.2] :=
 ⟨[_], [_, _, _, _, _], rfl, rfl, ⟨[_], [_, _, _, _], rfl, rfl, ⟨[_], [_, _, _], rfl, rfl, ⟨[_], [_, _], rfl, rfl, ⟨[_], [_], rfl, rfl, rfl⟩⟩⟩⟩⟩
theorem raw_K {w : World} {y : RawM} {cs : List Value} (h : kRawM.K w y cs) : cs = [.string y.f0, .string y.f1, .int .i64 y.f2, .int .i64 y.f3, .int .i64 y.f4, .slice y.sl.1 y.sl.2.1 y.sl.2.2] := by
 obtain ⟨_, _, rfl, rfl, ⟨_, _, rfl, rfl, ⟨_, _, rfl, rfl, ⟨_, _, rfl, rfl, ⟨_, _, rfl, rfl, rfl⟩⟩⟩⟩⟩ := h
 rfl
theorem infoRawM' : (Tryz.prog.info? 105).map (fun i => (i.zero, i.size, i.bytes)) = some (some (.agg #[.string ⟨#[]⟩, .string ⟨#[]⟩, .int .i64 0, .int .i64 0, .int .i64 0, .slice none 0 0]), kRawM.sz, 80) := by kernel_rfl
theorem infoInst' : (Tryz.prog.info? 143).map (fun i => (i.zero, i.size, i.bytes)) = some (some (.agg #[.int .i64 0, .int .i64 0, .string ⟨#[]⟩, .bool false, .string ⟨#[]⟩, .string ⟨#[]⟩, .string ⟨#[]⟩]), k143.sz, 88) := by kernel_rfl
structure CPart (w : World) (base : Nat) (v5 : Value) (l : List S105) (k : Nat) (ys : List RawM) : Prop where
 len : ys.length = l.length
 row : Kd.R kRawM 105 w base (fun _ => True) v5 ys
 bes : ∀ (j : Nat) (x : S105) (y : RawM), j < k → l[j]? = some x → ys[j]? = some y → Beside x y
 own : ∀ (j : Nat) (x : S105) (y : RawM), j < k → l[j]? = some x → ys[j]? = some y → Kd.R k143 143 w base (fun _ => True) (.slice y.sl.1 x.f5.length y.sl.2.2) x.f5
theorem raw_cells {w : World} {base g n cap : Nat} {ys : List RawM} (R : Kd.R kRawM 105 w base (fun _ => True) (.slice (some ⟨g, 0, none⟩) n cap) ys) {k : Nat} {y : RawM} (hy : ys[k]? = some y) :
  ∀ (j : Nat) (u : Value), [Value.string y.f0, .string y.f1, .int .i64 y.f2, .int .i64 y.f3, .int .i64 y.f4, .slice y.sl.1 y.sl.2.1 y.sl.2.2][j]? = some u → w.cell? ⟨g, k * 6 + j, none⟩ = some u := by
 have hk := (List.getElem?_eq_some_iff.1 hy).1; obtain ⟨A', c', ev, hlc, RC⟩ := Kd.R_reads R; injection ev with ea en ec; subst ea; obtain ⟨ad, cc, ead, hcl, hK, hcell⟩ := Kd.C_get RC y (k : Int) (by omega) (by omega); injection ead with ead; subst ead; rw [Int.toNat_natCast] at hK hcell
 have hyk : ys.getD k y = y := by rw [List.getD_eq_getElem?_getD, hy]; rfl
 rw [hyk] at hK; obtain rfl := raw_K hK; intro j u hj; have := hcell j u hj
 have ea : ∀ b o j, (⟨b, o, none⟩ : Addr).add j = ⟨b, o + j, none⟩ := fun b o j => by unfold Addr.add; split <;> simp_all
 rw [ea, Nat.zero_add] at this
 exact this
abbrev put6 (W : World) (g o : Nat) (u0 u1 u2 u3 u4 u5 : Value) : World := ((((((W.setCell ⟨g, o, none⟩ u0).setCell ⟨g, o + 1, none⟩ u1).setCell ⟨g, o + 2, none⟩ u2).setCell ⟨g, o + 3, none⟩ u3).setCell ⟨g, o + 4, none⟩ u4).setCell ⟨g, o + 5, none⟩ u5)
theorem blk_put6 {W : World} {g o b t : Nat} {cs : Array Value} (h : W.heap[b]? = some (.cells cs t (0, 0))) (hb : b ≠ g) (u0 u1 u2 u3 u4 u5 : Value) : (put6 W g o u0 u1 u2 u3 u4 u5).heap[b]? = some (.cells cs t (0, 0)) :=
 blk_far (p := ⟨g, o + 5, none⟩) (blk_far (p := ⟨g, o + 4, none⟩) (blk_far (p := ⟨g, o + 3, none⟩) (blk_far (p := ⟨g, o + 2, none⟩) (blk_far (p := ⟨g, o + 1, none⟩) (blk_far (p := ⟨g, o, none⟩) h hb u0) hb u1) hb u2) hb u3) hb u4) hb u5
theorem own_put6 {W : World} {g o t : Nat} {cs : Array Value} (h : W.heap[g]? = some (.cells cs t (0, 0))) (u0 u1 u2 u3 u4 u5 : Value) : ∃ cs', (put6 W g o u0 u1 u2 u3 u4 u5).heap[g]? = some (.cells cs' t (0, 0)) :=
 ⟨_, blk_set (blk_set (blk_set (blk_set (blk_set (blk_set h o u0) (o + 1) u1) (o + 2) u2) (o + 3) u3) (o + 4) u4) (o + 5) u5⟩
theorem R_put6 {α : Type} {d : Kd α} {e : Nat} {W : World} {base : Nat} {ok : Nat → Prop} {v : Value} {xs : List α} (h : d.R e W base ok v xs) {g o t : Nat} {cells : Array Value} (hb : W.heap[g]? = some (.cells cells t (0, 0))) (ht : ∀ q, q ∈ e :: d.E → q ≠ t) (u0 u1 u2 u3 u4 u5 : Value) : d.R e (put6 W g o u0 u1 u2 u3 u4 u5) base ok v xs :=
 Kd.R_set (Kd.R_set (Kd.R_set (Kd.R_set (Kd.R_set (Kd.R_set h hb ht o u0) (blk_set hb o u0) ht (o + 1) u1) (blk_set (blk_set hb o u0) (o + 1) u1) ht (o + 2) u2) (blk_set (blk_set (blk_set hb o u0) (o + 1) u1) (o + 2) u2) ht (o + 3) u3) (blk_set (blk_set (blk_set (blk_set hb o u0) (o + 1) u1) (o + 2) u2) (o + 3) u3) ht (o + 4) u4) (blk_set (blk_set (blk_set (blk_set (blk_set hb o u0) (o + 1) u1) (o + 2) u2) (o + 3) u3) (o + 4) u4) ht (o + 5) u5
theorem below_put6 {W0 W : World} {base g : Nat} (o : Nat) (h : Below base W0 W) (hg : base ≤ g) (u0 u1 u2 u3 u4 u5 : Value) : Below base W0 (put6 W g o u0 u1 u2 u3 u4 u5) :=
 (((((h.setCell (p := ⟨g, o, none⟩) hg u0).setCell (p := ⟨g, o + 1, none⟩) hg u1).setCell (p := ⟨g, o + 2, none⟩) hg u2).setCell (p := ⟨g, o + 3, none⟩) hg u3).setCell (p := ⟨g, o + 4, none⟩) hg u4).setCell (p := ⟨g, o + 5, none⟩) hg u5
theorem raw_put {w : World} {base g n cap : Nat} {ys : List RawM} (R : Kd.R kRawM 105 w base (fun _ => True) (.slice (some ⟨g, 0, none⟩) n cap) ys) {k : Nat} {y : RawM} (hy : ys[k]? = some y) (z : RawM) :
  Kd.R kRawM 105 (put6 w g (k * 6) (.string z.f0) (.string z.f1) (.int .i64 z.f2) (.int .i64 z.f3) (.int .i64 z.f4) (.slice z.sl.1 z.sl.2.1 z.sl.2.2)) base (fun _ => True) (.slice (some ⟨g, 0, none⟩) n cap) (ys.set k z) := by
 have hk := (List.getElem?_eq_some_iff.1 hy).1; obtain ⟨A', c', ev, hlc, RC⟩ := Kd.R_reads R; injection ev with ea en ec; have hc := raw_cells R hy; have := (Kd.R_seg R (k : Int) (by omega) (by omega) (j := 0) (seg := [.string z.f0, .string z.f1, .int .i64 z.f2, .int .i64 z.f3, .int .i64 z.f4, .slice z.sl.1 z.sl.2.1 z.sl.2.2]) (okp := fun _ => False) (c := [.string y.f0, .string y.f1, .int .i64 y.f2, .int .i64 y.f3, .int .i64 y.f4, .slice y.sl.1 y.sl.2.1 y.sl.2.2]) rfl (fun i u hi => hc i u hi) (show 0 + 6 ≤ 6 by omega) (x' := z) (raw_M z) (fun _ h => h.elim)).1
 exact this
theorem raw_put5 {w : World} {base g n cap : Nat} {ys : List RawM} (R : Kd.R kRawM 105 w base (fun _ => True) (.slice (some ⟨g, 0, none⟩) n cap) ys) {k : Nat} {y : RawM} (hy : ys[k]? = some y) (An : Option Addr) (m cn : Nat) :
  Kd.R kRawM 105 (w.setCell ⟨g, k * 6 + 5, none⟩ (.slice An m cn)) base (fun _ => True) (.slice (some ⟨g, 0, none⟩) n cap) (ys.set k ⟨y.f0, y.f1, y.f2, y.f3, y.f4, (An, m, cn)⟩) := by
 have hk := (List.getElem?_eq_some_iff.1 hy).1; obtain ⟨A', c', ev, hlc, RC⟩ := Kd.R_reads R; injection ev with ea en ec; have hc := raw_cells R hy
 exact (Kd.R_seg R (k : Int) (by omega) (by omega) (j := 5) (seg := [.slice An m cn]) (okp := fun _ => False) (c := [.string y.f0, .string y.f1, .int .i64 y.f2, .int .i64 y.f3, .int .i64 y.f4, .slice y.sl.1 y.sl.2.1 y.sl.2.2]) rfl (fun i u hi => hc i u hi) (show 5 + 1 ≤ 6 by omega) (x' := ⟨y.f0, y.f1, y.f2, y.f3, y.f4, (An, m, cn)⟩) (raw_M ⟨y.f0, y.f1, y.f2, y.f3, y.f4, (An, m, cn)⟩) (fun _ h => h.elim)).1
theorem rcopy_any (f0 f1 : ByteArray) (A2 : Option Addr) (c2 : Nat) (l2 : List ByteArray) (f3 f4 : Int) (A5 : Option Addr) (c5 : Nat) (l5 : List S105) (w : World)
    (h2 : Kd.C Kd.string w A2 l2.length l2) (h5 : Kd.C k105 w A5 l5.length l5) (b2 : l2.length * 16 ≤ 140737488355328) (b5 : Short l5) :
    Calls Tryz.prog 93 #[.agg #[.string f0, .string f1, .slice A2 l2.length c2, .int .i64 f3, .int .i64 f4, .slice A5 l5.length c5]] w fun e w' =>
      ∃ v2 v5, e = .returned (.agg #[.string f0, .string f1, v2, .int .i64 f3, .int .i64 f4, v5]) ∧ Kd.R Kd.string 9 w' w.heap.size (fun _ => True) v2 l2 ∧ Kd.R k105 105 w' w.heap.size (fun _ => True) v5 l5 ∧ Below w.heap.size w w' := by
  have BX := three_new w (.cells #[.string f0, .string f1, .slice A2 l2.length c2, .int .i64 f3, .int .i64 f4, .slice A5 l5.length c5] 85) (.cells #[.string ⟨#[]⟩, .string ⟨#[]⟩, .slice none 0 0, .int .i64 0, .int .i64 0, .slice none 0 0] 85) (.cells #[.string f0, .string f1, .slice A2 l2.length c2, .int .i64 f3, .int .i64 f4, .slice A5 l5.length c5] 85)
  have HB5 := Lib.hid b5
  replace BX := Lib.hid BX
  have H2 := Lib.hid h2
  have H5 := Lib.hid h5
  clear h2 h5 b5
  go_enter Tryz.func93, Tryz.ntmps93
  go_upto_region 2 with (fail)
  change Code.wp _ _ _ _ (((w.alloc (.cells #[.string f0, .string f1, .slice A2 l2.length c2, .int .i64 f3, .int .i64 f4, .slice A5 l5.length c5] 85)).alloc (.cells #[.string ⟨#[]⟩, .string ⟨#[]⟩, .slice none 0 0, .int .i64 0, .int .i64 0, .slice none 0 0] 85)).alloc (.cells #[.string f0, .string f1, .slice A2 l2.length c2, .int .i64 f3, .int .i64 f4, .slice A5 l5.length c5] 85))
  generalize (((w.alloc (.cells #[.string f0, .string f1, .slice A2 l2.length c2, .int .i64 f3, .int .i64 f4, .slice A5 l5.length c5] 85)).alloc (.cells #[.string ⟨#[]⟩, .string ⟨#[]⟩, .slice none 0 0, .int .i64 0, .int .i64 0, .slice none 0 0] 85)).alloc (.cells #[.string f0, .string f1, .slice A2 l2.length c2, .int .i64 f3, .int .i64 f4, .slice A5 l5.length c5] 85)) = W at *
  obtain ⟨B0, B1, B2, BB⟩ := BX.out
  replace B0 := Lib.hid B0
  replace B1 := Lib.hid B1
  replace B2 := Lib.hid B2
  replace BB := Lib.hid BB
  clear BX
  have hx2 := blk_lt B2.out
  -- the interfaces
  have HO := Lib.hid (own_empty Kd.string 9 W)
  have BA := Lib.hid ((Below.refl W.heap.size W).alloc (Nat.le_refl _) (.cells #[] 9))
  have HC := Lib.hid (Kd.C_below (Kd.C_below H2.out BB.out) BA.out)
  have y2 : (W.alloc (.cells #[] 9)).cell? ⟨w.heap.size, 2, none⟩ = some (.slice A2 l2.length c2) := pw_cell_below BA.out ((blk_cell B0.out 2).trans rfl)
  go_upto_region 3 with (at_builtin; refine Kd.R_append_rows Kd.string (Rr := (Kd.string).K (W.alloc (.cells #[] 9))) (w0 := W) W.heap.size rfl (.tmp 6) (.tmp 8) 82 9 (.string ⟨#[]⟩) 16 rfl Tryz.underlying82 infoStr rfl (by decide) (by omega) _ [] l2 _ l2.length c2 (fun _ => True) (fun _ => False) rfl rfl HO.out HC.out (fun _ _ h => h) (fun _ h => h.elim) (fun _ _ => trivial) BA.out (by simp) (by simp only [List.length_nil]; omega) ?_; intro v2 w1 h1 h2 _ _; obtain ⟨A2', c2', rfl⟩ := Kd.R_slice h1; have k2 := blk_frozen (blk_below B2.out h2) 2; have z2 : w1.cell? ⟨w.heap.size + 1 + 1, 2, none⟩ = some (.slice A2 l2.length c2) := (blk_cell (blk_below B2.out h2) 2).trans rfl; replace h1 := Lib.hid h1; replace h2 := Lib.hid h2)
  have D0 := Lib.hid (blk_far (p := ⟨w.heap.size + 1 + 1, 2, none⟩) (blk_below B0.out h2.out) (by simp; omega) (.slice A2' l2.length c2'))
  have D1 := Lib.hid (blk_far (p := ⟨w.heap.size + 1 + 1, 2, none⟩) (blk_below B1.out h2.out) (by simp) (.slice A2' l2.length c2'))
  have D2 := Lib.hid (blk_put (blk_below B2.out h2.out) 2 (.slice A2' l2.length c2') rfl)
  have R2 := Lib.hid (Kd.R_set (Kd.R_lower h1.out (show w.heap.size ≤ W.heap.size by omega)) (blk_below B2.out h2.out) (by decide) 2 (.slice A2' l2.length c2'))
  have BC := Lib.hid ((BB.out.trans (h2.out.mono BB.out.size)).setCell (p := ⟨w.heap.size + 1 + 1, 2, none⟩) (by show w.heap.size ≤ w.heap.size + 1 + 1; omega) (.slice A2' l2.length c2'))
  have hsz : Hid (w.heap.size + 1 + 1 < (w1.setCell ⟨w.heap.size + 1 + 1, 2, none⟩ (.slice A2' l2.length c2')).heap.size) := Lib.hid (blk_lt D2.out)
  simp only [List.nil_append] at h1 R2
  generalize w1.setCell ⟨w.heap.size + 1 + 1, 2, none⟩ (.slice A2' l2.length c2') = U at *
  clear B0 B1 B2 BB HO BA HC y2 h1 h2 k2 z2
  -- the methods' row
  have y5 : U.cell? ⟨w.heap.size, 5, none⟩ = some (.slice A5 l5.length c5) := (blk_cell D0.out 5).trans rfl
  go_upto_region 4 with (refine Kd.R_make kRawM (w0 := U) U.heap.size 105 rfl rfl _ _ _ rfl (l5.length : Int) rfl rfl Tryz.underlying83 _ 80 infoRawM' rfl (by decide) (by omega) zRaw (ok := fun _ => True) (okp := fun _ => False) (raw_M zRaw) (fun _ h => h.elim) trivial (by omega) (by have := HB5.out.1; rw [Int.toNat_natCast]; omega) (Below.refl _ _) (Nat.le_refl _) ?_; intro v5 w2 h1 h2 _ _; obtain ⟨A5', c5', rfl⟩ := Kd.R_slice h1; have k5 := blk_frozen (blk_below D2.out h2) 5; have z5 : w2.cell? ⟨w.heap.size + 1 + 1, 5, none⟩ = some (.slice A5 l5.length c5) := (blk_cell (blk_below D2.out h2) 5).trans rfl; rw [Int.toNat_natCast] at h1; simp only [List.length_replicate] at h1; replace h1 := Lib.hid h1; replace h2 := Lib.hid h2)
  have E0 := Lib.hid (blk_far (p := ⟨w.heap.size + 1 + 1, 5, none⟩) (blk_below D0.out h2.out) (by simp; omega) (.slice A5' l5.length c5'))
  have E1 := Lib.hid (blk_far (p := ⟨w.heap.size + 1 + 1, 5, none⟩) (blk_below D1.out h2.out) (by simp) (.slice A5' l5.length c5'))
  have E2 := Lib.hid (blk_put (blk_below D2.out h2.out) 5 (.slice A5' l5.length c5') rfl)
  have S2 := Lib.hid (Kd.R_set (Kd.R_below R2.out h2.out) (blk_below D2.out h2.out) (by decide) 5 (.slice A5' l5.length c5'))
  have BD := Lib.hid ((BC.out.trans (h2.out.mono BC.out.size)).setCell (p := ⟨w.heap.size + 1 + 1, 5, none⟩) (by show w.heap.size ≤ w.heap.size + 1 + 1; omega) (.slice A5' l5.length c5'))
  have PP : Hid (CPart (w2.setCell ⟨w.heap.size + 1 + 1, 5, none⟩ (.slice A5' l5.length c5')) (w.heap.size + 1) (.slice A5' l5.length c5') l5 0 (List.replicate l5.length zRaw)) :=
    Lib.hid ⟨by simp, Kd.R_set (Kd.R_lower h1.out (show w.heap.size + 1 ≤ U.heap.size by have := hsz.out; omega)) (blk_below D2.out h2.out) (by decide) 5 (.slice A5' l5.length c5'), fun j x y hj => absurd hj (by omega), fun j x y hj => absurd hj (by omega)⟩
  have hn : l5.length ≤ 1759218604441 := by have := HB5.out.1; omega
  generalize w2.setCell ⟨w.heap.size + 1 + 1, 5, none⟩ (.slice A5' l5.length c5') = V at *
  clear D0 D1 D2 R2 BC hsz y5 h1 h2 k5 z5
  go_wp2_with fail
  go_loopw [4] (fun i wr => ∃ (k : Nat) (ys : List RawM), k ≤ l5.length ∧ i = .int .i64 k ∧ Hid (CPart wr (w.heap.size + 1) (.slice A5' l5.length c5') l5 k ys) ∧ Hid (wr.heap[w.heap.size]? = some (.cells #[.string f0, .string f1, .slice A2 l2.length c2, .int .i64 f3, .int .i64 f4, .slice A5 l5.length c5] 85 (0, 0))) ∧ Hid (wr.heap[w.heap.size + 1]? = some (.cells #[.string ⟨#[]⟩, .string ⟨#[]⟩, .slice none 0 0, .int .i64 0, .int .i64 0, .slice none 0 0] 85 (0, 0))) ∧ Hid (wr.heap[w.heap.size + 1 + 1]? = some (.cells #[.string f0, .string f1, .slice A2' l2.length c2', .int .i64 f3, .int .i64 f4, .slice A5' l5.length c5'] 85 (0, 0))) ∧ Hid (Kd.R Kd.string 9 wr w.heap.size (fun _ => True) (.slice A2' l2.length c2') l2) ∧ Hid (Below w.heap.size w wr)) (fun i _ => l5.length - (intOf i).toNat)
  case atStart => exact ⟨0, _, Nat.zero_le _, rfl, PP, E0, E1, E2, S2, BD⟩
  case round =>
    clear PP E0 E1 E2 S2 BD
    obtain ⟨k, ys, hk, rfl, PP, E0, E1, E2, S2, BD⟩ := hrel
    have y5 : wr.cell? ⟨w.heap.size, 5, none⟩ = some (.slice A5 l5.length c5) := (blk_cell E0.out 5).trans rfl
    by_cases hlt : k < l5.length
    · have hlen : decide (k < l5.length) = true := decide_eq_true hlt
      obtain ⟨g, cap, eg, hg, hgl, cells, hcells⟩ := Kd.R_form PP.out.row (by rw [PP.out.len]; omega)
      injection eg with e1 e2 e3
      subst e1 e3
      clear e2
      have hky : k < ys.length := by rw [PP.out.len]; exact hlt
      have hy := List.getElem?_eq_getElem hky
      generalize ys[k] = y at *
      obtain ⟨ad, A6, c6, rfl, p0, p1, p2, p3, p4, p5, hc6, K6⟩ := at_T105 H5.out (k : Int) (by omega) (by omega)
      have hx : l5[k]? = some (rd_T105 l5 (k : Int)) := by
        simp [rd_T105, List.getD_eq_getElem?_getD, List.getElem?_eq_getElem hlt]
      rw [Int.toNat_natCast] at p0 p1 p2 p3 p4 p5
      generalize rd_T105 l5 (k : Int) = x at *
      have p5w := Lib.hid p5
      replace p0 := pw_cell_below BD.out p0
      replace p1 := pw_cell_below BD.out p1
      replace p2 := pw_cell_below BD.out p2
      replace p3 := pw_cell_below BD.out p3
      replace p4 := pw_cell_below BD.out p4
      replace p5 := pw_cell_below BD.out p5
      have hadg : Hid (ad.block ≠ g) := Lib.hid (fun e => by
        obtain ⟨ad', cc, ea, hcl, hK, hcell⟩ := Kd.C_get H5.out x (k : Int) (by omega) (by omega)
        injection ea with ea
        subst ea
        have h0 : ∃ u, cc[0]? = some u := by
          have : 0 < cc.length := by rw [hcl]; decide
          exact ⟨_, List.getElem?_eq_getElem this⟩
        obtain ⟨u, hu⟩ := h0
        have h1 := World.block_lt_of_cell? _ _ (hcell 0 u hu)
        have hbk : ∀ (a : Addr) (n : Nat), (a.add n).block = a.block := fun a n => by unfold Addr.add; split <;> rfl
        rw [hbk] at h1
        omega)
      have ne0 : Hid (w.heap.size ≠ g) := Lib.hid (by omega)
      have ne1 : Hid (w.heap.size + 1 ≠ g) := Lib.hid (blk_ne E1.out hcells (by decide))
      have ne2 : Hid (w.heap.size + 1 + 1 ≠ g) := Lib.hid (blk_ne E2.out hcells (by decide))
      have z5 : wr.cell? ⟨w.heap.size + 1 + 1, 5, none⟩ = some (.slice (some ⟨g, 0, none⟩) l5.length c5') := (blk_cell E2.out 5).trans rfl
      have RC := raw_cells PP.out.row hy
      have r0 : wr.cell? ⟨g, k * 6, none⟩ = some (.string y.f0) := RC 0 _ rfl
      have r1 := RC 1 _ rfl
      have r2 := RC 2 _ rfl
      have r3 := RC 3 _ rfl
      have r4 := RC 4 _ rfl
      have r5 := RC 5 _ rfl
      have k0 := blk_frozen hcells (k * 6)
      have k1 := blk_frozen hcells (k * 6 + 1)
      have k2 := blk_frozen hcells (k * 6 + 2)
      have k3 := blk_frozen hcells (k * 6 + 3)
      have k4 := blk_frozen hcells (k * 6 + 4)
      have k5 := blk_frozen hcells (k * 6 + 5)
      replace hcells := Lib.hid hcells
      replace hy := Lib.hid hy
      replace hx := Lib.hid hx
      replace K6 := Lib.hid K6
      clear RC
      go_wp2_with fail
      go_region
      go_upto_region 8 with (fail)
      have F0 := Lib.hid (blk_drew (blk_put6 (o := k * 6) E0.out ne0.out (.string x.f0) (.string x.f1) (.int .i64 x.f2) (.int .i64 x.f3) (.int .i64 x.f4) (.slice A6 x.f5.length c6)))
      have F1 := Lib.hid (blk_drew (blk_put6 (o := k * 6) E1.out ne1.out (.string x.f0) (.string x.f1) (.int .i64 x.f2) (.int .i64 x.f3) (.int .i64 x.f4) (.slice A6 x.f5.length c6)))
      have F2 := Lib.hid (blk_drew (blk_put6 (o := k * 6) E2.out ne2.out (.string x.f0) (.string x.f1) (.int .i64 x.f2) (.int .i64 x.f3) (.int .i64 x.f4) (.slice A6 x.f5.length c6)))
      have hgb : w.heap.size ≤ g := by omega
      have FB := Lib.hid (below_drew1 (below_put6 (k * 6) BD.out hgb (.string x.f0) (.string x.f1) (.int .i64 x.f2) (.int .i64 x.f3) (.int .i64 x.f4) (.slice A6 x.f5.length c6)))
      have FS := Lib.hid (Kd.R_below (R_put6 (o := k * 6) S2.out hcells.out (by decide) (.string x.f0) (.string x.f1) (.int .i64 x.f2) (.int .i64 x.f3) (.int .i64 x.f4) (.slice A6 x.f5.length c6)) (below_drew1 (Below.refl _ _)))
      have FR := Lib.hid (Kd.R_below (raw_put PP.out.row hy.out ⟨x.f0, x.f1, x.f2, x.f3, x.f4, (A6, x.f5.length, c6)⟩) (below_drew1 (Below.refl _ _)))
      obtain ⟨cells2, hcells2⟩ := own_put6 (o := k * 6) hcells.out (.string x.f0) (.string x.f1) (.int .i64 x.f2) (.int .i64 x.f3) (.int .i64 x.f4) (.slice A6 x.f5.length c6)
      have FC := Lib.hid (blk_drew hcells2)
      have FO : Hid (∀ (j : Nat) (x' : S105) (y' : RawM), j < k → l5[j]? = some x' → ys[j]? = some y' → Kd.R k143 143 (put6 wr g (k * 6) (.string x.f0) (.string x.f1) (.int .i64 x.f2) (.int .i64 x.f3) (.int .i64 x.f4) (.slice A6 x.f5.length c6)).drew (w.heap.size + 1) (fun _ => True) (.slice y'.sl.1 x'.f5.length y'.sl.2.2) x'.f5) :=
        Lib.hid (fun j x' y' hj hx' hy' => Kd.R_below (R_put6 (o := k * 6) (PP.out.own j x' y' hj hx' hy') hcells.out (by decide) (.string x.f0) (.string x.f1) (.int .i64 x.f2) (.int .i64 x.f3) (.int .i64 x.f4) (.slice A6 x.f5.length c6)) (below_drew1 (Below.refl _ _)))
      have FBe := Lib.hid PP.out.bes
      have FL := Lib.hid PP.out.len
      change Code.wp _ _ _ _ (put6 wr g (k * 6) (.string x.f0) (.string x.f1) (.int .i64 x.f2) (.int .i64 x.f3) (.int .i64 x.f4) (.slice A6 x.f5.length c6)).drew
      generalize (put6 wr g (k * 6) (.string x.f0) (.string x.f1) (.int .i64 x.f2) (.int .i64 x.f3) (.int .i64 x.f4) (.slice A6 x.f5.length c6)).drew = Y at *
      clear p0 p1 p2 p3 p4 p5 r0 r1 r2 r3 r4 r5 k0 k1 k2 k3 k4 k5 y5 z5 E0 E1 E2 S2 BD PP hcells hcells2
      have hy2 : (ys.set k ⟨x.f0, x.f1, x.f2, x.f3, x.f4, (A6, x.f5.length, c6)⟩)[k]? = some ⟨x.f0, x.f1, x.f2, x.f3, x.f4, (A6, x.f5.length, c6)⟩ := List.getElem?_set_self hky
      have s1 : Y.cell? ⟨w.heap.size, 5, none⟩ = some (.slice (some ad) l5.length c5) := (blk_cell F0.out 5).trans rfl
      have s2 : Y.cell? ⟨w.heap.size + 1 + 1, 5, none⟩ = some (.slice (some ⟨g, 0, none⟩) l5.length c5') := (blk_cell F2.out 5).trans rfl
      have s3 := pw_cell_below FB.out p5w.out
      have s4 : Y.cell? ⟨g, k * 6 + 5, none⟩ = some (.slice A6 x.f5.length c6) := raw_cells FR.out hy2 5 _ rfl
      have HO := Lib.hid (own_empty k143 143 Y.drew)
      have BA := Lib.hid ((Below.refl Y.heap.size Y.drew).alloc (Nat.le_refl _) (.cells #[] 143))
      have HC := Lib.hid (Kd.C_below (Kd.C_below K6.out (below_drew1 FB.out)) BA.out)
      have hcl := Lib.hid (HB5.out.2 x (List.mem_of_getElem? hx.out))
      have m0 : Hid (g ≠ w.heap.size) := Lib.hid (Ne.symm ne0.out)
      have m2 : Hid (g ≠ w.heap.size + 1 + 1) := Lib.hid (Ne.symm ne2.out)
      have hbk : ∀ (a : Addr) (n : Nat), (a.add n).block = a.block := fun a n => by unfold Addr.add; split <;> rfl
      have m3 : Hid (g ≠ (ad.add (k * 6)).block) := Lib.hid (by rw [hbk]; exact Ne.symm hadg.out)
      clear hbk
      have a1 := pw_cell_below (w := Y.drew) BA.out s1
      have a2 := pw_cell_below (w := Y.drew) BA.out s2
      have a3 := pw_cell_below (w := Y.drew) BA.out s3
      replace a1 := Lib.hid a1
      replace a2 := Lib.hid a2
      replace a3 := Lib.hid a3
      first
      | go_region_held3 (fun w' => w'.cell? ⟨w.heap.size, 5, none⟩ = some (.slice (some ad) l5.length c5) ∧ w'.cell? ⟨w.heap.size + 1 + 1, 5, none⟩ = some (.slice (some ⟨g, 0, none⟩) l5.length c5') ∧ w'.cell? ⟨(ad.add (k * 6)).block, (ad.add (k * 6)).off + 5, none⟩ = some (.slice A6 x.f5.length c6)) (first | exact ⟨s1, s2, s3⟩ | exact ⟨a1.out, a2.out, a3.out⟩ | exact ⟨t1.out, t2.out, t3.out⟩ | exact ⟨(World.cell?_setCell_far _ _ _ _ m0.out).trans t1.out, (World.cell?_setCell_far _ _ _ _ m2.out).trans t2.out, (World.cell?_setCell_far _ _ _ _ m3.out).trans t3.out⟩)
          (first | (refine Kd.R_append_rows_step k143 (Rr := (k143).K (Y.drew.alloc (.cells #[] 143))) (W := Y.drew.alloc (.cells #[] 143)) (w0 := Y.drew) Y.heap.size (by rfl) (.tmp 35) (.tmp 41) 103 143 (.agg #[.int .i64 0, .int .i64 0, .string ⟨#[]⟩, .bool false, .string ⟨#[]⟩, .string ⟨#[]⟩, .string ⟨#[]⟩]) 88 (by rfl) Tryz.underlying103 infoInst' rfl (by decide) (by omega) _ [] x.f5 _ x.f5.length c6 (fun _ => True) (fun _ => False) (by rfl) (by rfl) HO.out HC.out (fun _ _ h => h) (fun _ h => h.elim) (fun _ _ => trivial) BA.out (by simp) (by have := hcl.out; simp only [List.length_nil]; omega) ?_; intro vn w5 h1 h2 _ _; obtain ⟨An, cn, rfl⟩ := Kd.R_slice h1; have hb5 := Lib.hid ((below_drew1 (Below.refl Y.heap.size Y)).trans h2); have t1 := Lib.hid (pw_cell_below hb5.out s1); have t2 := Lib.hid (pw_cell_below hb5.out s2); have t3 := Lib.hid (pw_cell_below hb5.out s3); have t4 := pw_cell_below hb5.out s4; have k5 := blk_frozen (blk_below FC.out hb5.out) (k * 6 + 5); simp only [List.nil_append] at h1; replace h1 := Lib.hid h1; clear h2))
      | fail "no region"
      have hcn : x.f5.length ≤ cn := by
        obtain ⟨A', c', ev, hle, _⟩ := Kd.R_reads h1.out
        injection ev with _ _ ec
        rw [ec]; exact hle
      have hyb : w.heap.size + 1 ≤ Y.heap.size := blk_lt F0.out
      have G0 := Lib.hid (blk_far (p := ⟨g, k * 6 + 5, none⟩) (blk_below F0.out hb5.out) ne0.out (.slice An x.f5.length cn))
      have G1 := Lib.hid (blk_far (p := ⟨g, k * 6 + 5, none⟩) (blk_below F1.out hb5.out) ne1.out (.slice An x.f5.length cn))
      have G2 := Lib.hid (blk_far (p := ⟨g, k * 6 + 5, none⟩) (blk_below F2.out hb5.out) ne2.out (.slice An x.f5.length cn))
      have GC := blk_below FC.out hb5.out
      have GS := Lib.hid (Kd.R_set (Kd.R_below FS.out hb5.out) GC (by decide) (k * 6 + 5) (.slice An x.f5.length cn))
      have GB := Lib.hid ((FB.out.trans (hb5.out.mono FB.out.size)).setCell (p := ⟨g, k * 6 + 5, none⟩) hgb (.slice An x.f5.length cn))
      have GP : Hid (CPart (w5.setCell ⟨g, k * 6 + 5, none⟩ (.slice An x.f5.length cn)) (w.heap.size + 1) (.slice (some ⟨g, 0, none⟩) l5.length c5') l5 (k + 1) (ys.set k ⟨x.f0, x.f1, x.f2, x.f3, x.f4, (An, x.f5.length, cn)⟩)) := by
        refine Lib.hid ⟨by rw [List.length_set]; exact FL.out, ?_, fun j x' y' hj hx' hy' => ?_, fun j x' y' hj hx' hy' => ?_⟩
        · have := raw_put5 (Kd.R_below FR.out hb5.out) hy2 An x.f5.length cn
          rw [List.set_set] at this
          exact this
        · by_cases hjk : j = k
          · subst hjk
            rw [List.getElem?_set_self hky] at hy'
            rw [hx.out] at hx'
            cases hx'; cases hy'
            exact ⟨rfl, rfl, rfl, rfl, rfl, rfl, hcn⟩
          · rw [List.getElem?_set_ne (Ne.symm hjk)] at hy'
            exact FBe.out j _ _ (by omega) hx' hy'
        · by_cases hjk : j = k
          · subst hjk
            rw [List.getElem?_set_self hky] at hy'
            rw [hx.out] at hx'
            cases hx'; cases hy'
            exact Kd.R_set (Kd.R_lower h1.out hyb) GC (by decide) _ _
          · rw [List.getElem?_set_ne (Ne.symm hjk)] at hy'
            exact Kd.R_set (Kd.R_below (FO.out j _ _ (by omega) hx' hy') hb5.out) GC (by decide) _ _
      clear F0 F1 F2 FS FB FR FC FO FBe FL GC h1 hb5 t1 t2 t3 t4 k5 s1 s2 s3 s4 HO BA HC hcl m0 m2 m3 a1 a2 a3 hy2 hcn hyb
      go_wp2
      exact ⟨⟨k + 1, _, by omega, by push_cast; rfl, GP, G0, G1, G2, GS, GB⟩, by simp [intOf]; omega⟩
    · have p0 : wr.cell? ⟨w.heap.size + 1 + 1, 0, none⟩ = some (.string f0) := (blk_cell E2.out 0).trans rfl
      have p1 : wr.cell? ⟨w.heap.size + 1 + 1, 1, none⟩ = some (.string f1) := (blk_cell E2.out 1).trans rfl
      have p2 : wr.cell? ⟨w.heap.size + 1 + 1, 2, none⟩ = some (.slice A2' l2.length c2') := (blk_cell E2.out 2).trans rfl
      have p3 : wr.cell? ⟨w.heap.size + 1 + 1, 3, none⟩ = some (.int .i64 f3) := (blk_cell E2.out 3).trans rfl
      have p4 : wr.cell? ⟨w.heap.size + 1 + 1, 4, none⟩ = some (.int .i64 f4) := (blk_cell E2.out 4).trans rfl
      have p5 : wr.cell? ⟨w.heap.size + 1 + 1, 5, none⟩ = some (.slice A5' l5.length c5') := (blk_cell E2.out 5).trans rfl
      have q0 : wr.cell? ⟨w.heap.size + 1, 0, none⟩ = some (.string ⟨#[]⟩) := (blk_cell E1.out 0).trans rfl
      have q1 : wr.cell? ⟨w.heap.size + 1, 1, none⟩ = some (.string ⟨#[]⟩) := (blk_cell E1.out 1).trans rfl
      have q2 : wr.cell? ⟨w.heap.size + 1, 2, none⟩ = some (.slice none 0 0) := (blk_cell E1.out 2).trans rfl
      have q3 : wr.cell? ⟨w.heap.size + 1, 3, none⟩ = some (.int .i64 0) := (blk_cell E1.out 3).trans rfl
      have q4 : wr.cell? ⟨w.heap.size + 1, 4, none⟩ = some (.int .i64 0) := (blk_cell E1.out 4).trans rfl
      have q5 : wr.cell? ⟨w.heap.size + 1, 5, none⟩ = some (.slice none 0 0) := (blk_cell E1.out 5).trans rfl
      have g0 := blk_frozen E1.out 0
      have g1 := blk_frozen E1.out 1
      have g2 := blk_frozen E1.out 2
      have g3 := blk_frozen E1.out 3
      have g4 := blk_frozen E1.out 4
      have g5 := blk_frozen E1.out 5
      have W1 := Lib.hid hlt
      clear hlt
      have hge : decide (k < l5.length) = false := decide_eq_false W1.out
      have hall : Kd.R k105 105 wr (w.heap.size + 1) (fun _ => True) (.slice A5' l5.length c5') l5 := backOf PP.out.len PP.out.row (fun j x y hx hy => ⟨PP.out.bes j x y (by have := (List.getElem?_eq_some_iff.1 hx).1; have := W1.out; omega) hx hy, PP.out.own j x y (by have := (List.getElem?_eq_some_iff.1 hx).1; have := W1.out; omega) hx hy⟩)
      have T5 := Lib.hid (R_set6 (Kd.R_lower hall (Nat.le_succ _)) E1.out (by decide) (.string f0) (.string f1) (.slice A2' l2.length c2') (.int .i64 f3) (.int .i64 f4) (.slice A5' l5.length c5'))
      have T2 := Lib.hid (R_set6 S2.out E1.out (by decide) (.string f0) (.string f1) (.slice A2' l2.length c2') (.int .i64 f3) (.int .i64 f4) (.slice A5' l5.length c5'))
      have X1 := Lib.hid (blk_set6 E1.out (.string f0) (.string f1) (.slice A2' l2.length c2') (.int .i64 f3) (.int .i64 f4) (.slice A5' l5.length c5'))
      have X2 := Lib.hid (below_set6 BD.out (g := w.heap.size + 1) (Nat.le_succ _) (.string f0) (.string f1) (.slice A2' l2.length c2') (.int .i64 f3) (.int .i64 f4) (.slice A5' l5.length c5'))
      clear hall PP E0 E1 E2 S2 BD
      go_wp2
      exact bodyPost_ret (v := .agg #[.string f0, .string f1, .slice A2' l2.length c2', .int .i64 f3, .int .i64 f4, .slice A5' l5.length c5']) (results_cell_row rfl _ _ (w.heap.size + 1) 85 _ (0, 0) _ rfl (X1.out.trans rfl) Tryz.underlying85 rfl (by kernel_rfl)) rfl ⟨_, _, rfl, T2.out, T5.out, X2.out⟩
end Go.Proofs.YtaipkdglhfhhiaaGreatDoor.Hi

namespace Go.Proofs.YtaipkdglhfhhiaaGreatDoor.Hi
open Go Go.RowKit Go.Proofs.YtaipkdglhfhhiaaGreatDoorW.PrintWords Go.Proofs.YtaipkdglhfhhiaaGreatDoorW.PrintLast Go.Proofs.YtaipkdglhfhhiaaGreatDoorW.PrintMore Go.Proofs.YtaipkdglhfhhiaaGreatDoor.Pt
set_option linter.unusedVariables false
set_option linter.unusedSimpArgs false
set_option maxHeartbeats 2000000
set_option maxRecDepth 100000
def methC3 (b1 b2 b3 : Nat) : List Value := ((([.string sInit, .string sV, .int .i64 1, .int .i64 1, .int .i64 0, .slice (some ⟨b1, 0, none⟩) 1 1] : List Value) ++ [.string sId, .string sI, .int .i64 1, .int .i64 1, .int .i64 1, .slice (some ⟨b2, 0, none⟩) 2 2]) ++ [.string sKin, .string sLO, .int .i64 4, .int .i64 1, .int .i64 1, .slice (some ⟨b3, 0, none⟩) 2 2])
theorem objR2 {W : World} {base b1 b2 b3 b4 : Nat} {ok : Nat → Prop} (g1 : base ≤ b1) (g2 : base ≤ b2) (g3 : base ≤ b3) (g4 : base ≤ b4) (k1 : ok b1) (k2 : ok b2) (k3 : ok b3) (k4 : ok b4) (n1 : b1 ≠ b4) (n2 : b2 ≠ b4) (n3 : b3 ≠ b4)
  (h1 : W.heap[b1]? = some (.cells (instC 38 0).toArray 143 (0, 0))) (h2 : W.heap[b2]? = some (.cells (instC 1 7 ++ instC 36 0).toArray 143 (0, 0))) (h3 : W.heap[b3]? = some (.cells (instC 4 0 ++ instC 37 0).toArray 143 (0, 0)))
  (h4 : W.heap[b4]? = some (.cells (methC3 (b1) (b2) (b3)).toArray 105 (0, 0))) :
  Kd.R k105 105 W base ok (.slice (some ⟨b4, 0, none⟩) 3 3) objM := by
 have r1 := R_block k143 143 (base := base) (ok := fun k => ok k ∧ some k ≠ some b4) h1 g1 ⟨k1, by simpa using n1⟩ (by decide) (reps_inst W base _ 38 0); have r2 := R_block k143 143 (base := base) (ok := fun k => ok k ∧ some k ≠ some b4) h2 g2 ⟨k2, by simpa using n2⟩ (by decide) (reps_inst2 W base _ 1 7 36 0); have r3 := R_block k143 143 (base := base) (ok := fun k => ok k ∧ some k ≠ some b4) h3 g3 ⟨k3, by simpa using n3⟩ (by decide) (reps_inst2 W base _ 4 0 37 0); refine R_block k105 105 (xs := objM) h4 g4 k4 (by decide) ?_
 exact (((Reps.none _ _).snoc (k105_mkM W base _ ⟨sInit, sV, 1, 1, 0, [inst 38 0]⟩ r1) rfl).snoc (k105_mkM W base _ ⟨sId, sI, 1, 1, 1, [inst 1 7, inst 36 0]⟩ r2) rfl).snoc (k105_mkM W base _ ⟨sKin, sLO, 4, 1, 1, [inst 4 0, inst 37 0]⟩ r3) rfl
def newCells (g : Nat) : List Value := (([.string sObject, .string ⟨#[]⟩, .slice none 0 0, .int .i64 33, .int .i64 0, .slice (some ⟨g + 1 + 1 + 1, 0, none⟩) 3 3] : List Value) ++ [.string sCloneable, .string sObject, .slice none 0 0, .int .i64 1537, .int .i64 0, .slice none 0 0]) ++ [.string sSerializable, .string sObject, .slice none 0 0, .int .i64 1537, .int .i64 0, .slice none 0 0]
theorem newR {W : World} {base g : Nat} (hb : base ≤ g)
  (h1 : W.heap[g]? = some (.cells (instC 38 0).toArray 143 (0, 0))) (h2 : W.heap[g + 1]? = some (.cells (instC 1 7 ++ instC 36 0).toArray 143 (0, 0))) (h3 : W.heap[g + 1 + 1]? = some (.cells (instC 4 0 ++ instC 37 0).toArray 143 (0, 0)))
  (h4 : W.heap[g + 1 + 1 + 1]? = some (.cells (methC3 (g) (g + 1) (g + 1 + 1)).toArray 105 (0, 0)))
  (h6 : W.heap[g + 1 + 1 + 1 + 1 + 1]? = some (.cells (newCells g).toArray 85 (0, 0))) :
  Kd.R k85 85 W base (fun _ => True) (.slice (some ⟨g + 1 + 1 + 1 + 1 + 1, 0, none⟩) 3 3) (newE.map (·.c)) := by
 have r5 := objR2 (ok := fun k => True ∧ some k ≠ some (g + 1 + 1 + 1 + 1 + 1)) (base := base) (by omega) (by omega) (by omega) (by omega) ⟨trivial, by simp <;> omega⟩ ⟨trivial, by simp <;> omega⟩ ⟨trivial, by simp⟩ ⟨trivial, by simp⟩ (by omega) (by omega) (by omega) h1 h2 h3 h4; refine R_block k85 85 (base := base) (ok := fun _ => True) (xs := newE.map (·.c)) h6 (Nat.le_trans hb (by omega)) trivial (by decide) ?_
 exact (((Reps.none _ _).snoc (k85_mkM W base _ objC (Kd.R_nil _ _ _ _ _) r5) rfl).snoc (k85_mkM W base _ (ifaceC sCloneable) (Kd.R_nil _ _ _ _ _) (Kd.R_nil _ _ _ _ _)) rfl).snoc (k85_mkM W base _ (ifaceC sSerializable) (Kd.R_nil _ _ _ _ _) (Kd.R_nil _ _ _ _ _)) rfl
theorem seven_new (w : World) (o0 o1 o2 o3 o4 o5 o6 : Obj) : let W := ((((((w.alloc o0).alloc o1).alloc o2).alloc o3).alloc o4).alloc o5).alloc o6
  W.heap[w.heap.size]? = some o0 ∧ W.heap[w.heap.size + 1]? = some o1 ∧ W.heap[w.heap.size + 1 + 1]? = some o2 ∧ W.heap[w.heap.size + 1 + 1 + 1]? = some o3 ∧ W.heap[w.heap.size + 1 + 1 + 1 + 1 + 1]? = some o5 ∧ W.heap[w.heap.size + 1 + 1 + 1 + 1 + 1 + 1]? = some o6 ∧ Below w.heap.size w W := by
 obtain ⟨f0, f1, f2, f3, f4, fb⟩ := five_new w o0 o1 o2 o3 o4
 have e5 : (((((w.alloc o0).alloc o1).alloc o2).alloc o3).alloc o4).heap.size = w.heap.size + 1 + 1 + 1 + 1 + 1 := by simp
 refine ⟨blk_alloc (blk_alloc f0 o5) o6, blk_alloc (blk_alloc f1 o5) o6, blk_alloc (blk_alloc f2 o5) o6, blk_alloc (blk_alloc f3 o5) o6, ?_, ?_, ?_⟩
 ·have := blk_alloc (blk_new (((((w.alloc o0).alloc o1).alloc o2).alloc o3).alloc o4) o5) o6
  rwa [e5] at this
 ·have := blk_new ((((((w.alloc o0).alloc o1).alloc o2).alloc o3).alloc o4).alloc o5) o6
  rwa [show ((((((w.alloc o0).alloc o1).alloc o2).alloc o3).alloc o4).alloc o5).heap.size = w.heap.size + 1 + 1 + 1 + 1 + 1 + 1 by simp] at this
 ·exact (fb.alloc (by omega) _).alloc (by simp; omega) _
theorem rnew_any (w : World) : Calls Tryz.prog 48 #[] w fun e w' => ∃ g v, e = .returned (.pointer (some ⟨g, 0, none⟩)) ∧ RIn w' w.heap.size g v (newE.map (·.c)) ∧ Below w.heap.size w w' := by
 go_enter Tryz.func48, Tryz.ntmps48; go_wp2; go_ret
 have F := seven_new w (.cells (instC 38 0).toArray 143) (.cells (instC 1 7 ++ instC 36 0).toArray 143) (.cells (instC 4 0 ++ instC 37 0).toArray 143)
  (.cells (methC3 (w.heap.size) (w.heap.size + 1) (w.heap.size + 1 + 1)).toArray 105)
  (.cells #[.string sObject, .string ⟨#[]⟩, .slice none 0 0, .int .i64 33, .int .i64 0, .slice (some ⟨w.heap.size + 1 + 1 + 1, 0, none⟩) 3 3] 85) (.cells (newCells w.heap.size).toArray 85) (.cells #[.slice (some ⟨w.heap.size + 1 + 1 + 1 + 1 + 1, 0, none⟩) 3 3] 94)
 exact ⟨_, _, rfl, ⟨by omega, F.2.2.2.2.2.1, newR (Nat.le_refl _) F.1 F.2.1 F.2.2.1 F.2.2.2.1 F.2.2.2.2.1⟩, F.2.2.2.2.2.2⟩
end Go.Proofs.YtaipkdglhfhhiaaGreatDoor.Hi

namespace Go.Proofs.YtaipkdglhfhhiaaGreatDoor.Pt
open Go Go.RowKit Go.Proofs.YtaipkdglhfhhiaaGreatDoor.Nm Go.Proofs.YtaipkdglhfhhiaaGreatDoor.Ty Go.Proofs.YtaipkdglhfhhiaaGreatDoor.Hi Go.Proofs.YtaipkdglhfhhiaaGreatDoorW.PrintWords Go.Proofs.YtaipkdglhfhhiaaGreatDoorW.PrintLast Go.Proofs.YtaipkdglhfhhiaaGreatDoorW.PrintMore
set_option linter.unusedVariables false
set_option linter.unusedSimpArgs false
set_option maxHeartbeats 4000000
set_option maxRecDepth 100000
theorem infoClass : (Tryz.prog.info? 85).map (fun i => (i.zero, i.size, i.bytes)) = some (some (.agg #[.string ⟨#[]⟩, .string ⟨#[]⟩, .slice none 0 0, .int .i64 0, .int .i64 0, .slice none 0 0]), k85.sz, 96) := by kernel_rfl
theorem rno {w W : World} {base g : Nat} {v : Value} {cs cs' : List S85} (h : RIn w base g v cs) (hbs : base ≤ w.heap.size) (hb : Below w.heap.size w W) (e : cs' = cs) (a b : Int) :
  ∃ n err, Ending.returned (.tuple #[.int .i64 a, .int .i64 b]) = Ending.returned (.tuple #[.int .i64 n, .int .i64 err]) ∧ ∃ v', RIn W base g v' cs' ∧ Below base w W :=
 ⟨a, b, rfl, v, e ▸ h.below hb, hb.mono hbs⟩
theorem rdefine_any (w : World) (base g : Nat) (v : Value) (es : List Ent) (h : RIn w base g v (csOf es)) (hbs : base ≤ w.heap.size) (hf : ∀ x ∈ es, Fine x) (hlen : es.length ≤ 1000)
  (f0 f1 : ByteArray) (A2 : Option Addr) (c2 : Nat) (l2 : List ByteArray) (f3 f4 : Int) (A5 : Option Addr) (c5 : Nat) (l5 : List S105) (h2 : Kd.C Kd.string w A2 l2.length l2) (hc2 : l2.length ≤ c2) (h5 : Kd.C k105 w A5 l5.length l5) (hc5 : l5.length ≤ c5)
  (hr3 : inRB f3 = true) (hms : ∀ m ∈ l5, inRB m.f2 = true) :
  Calls Tryz.prog 49 #[.pointer (some ⟨g, 0, none⟩), .agg #[.string f0, .string f1, .slice A2 l2.length c2, .int .i64 f3, .int .i64 f4, .slice A5 l5.length c5]] w fun e w' =>
   ∃ n err, e = .returned (.tuple #[.int .i64 n, .int .i64 err]) ∧ ∃ v', RIn w' base g v' (csOf (stepF es ⟨f0, f1, l2, f3, f4, l5⟩)) ∧ Below base w w' := by
 have hst := cs_step es ⟨f0, f1, l2, f3, f4, l5⟩; generalize csOf (stepF es ⟨f0, f1, l2, f3, f4, l5⟩) = T at *; replace hst := Lib.hid hst; unfold takeB at hst; simp only at hst; have SS := Lib.hid (@sound_sizes ⟨f0, f1, l2, f3, f4, l5⟩); have B0 := Lib.hid (blk_new w (.cells #[.string f0, .string f1, .slice A2 l2.length c2, .int .i64 f3, .int .i64 f4, .slice A5 l5.length c5] 85)); have AB : Hid (Below w.heap.size w (w.alloc (.cells #[.string f0, .string f1, .slice A2 l2.length c2, .int .i64 f3, .int .i64 f4, .slice A5 l5.length c5] 85))) := Lib.hid ((Below.refl _ _).alloc (Nat.le_refl _) _); have HW := Lib.hid h; have H2 := Lib.hid h2; have H5 := Lib.hid h5; have HF := Lib.hid hf; have CK := Lib.hid (fun (W : World) (hb : Below w.heap.size w W) => arbiterref05_Check.calls 1000 f0 f1 A2 c2 l2 f3 f4 A5 c5 l5 _ W (Kd.C_below h2 hb) hc2 (Kd.C_below h5 hb) hc5 (ck_f f0 f1 l2 f3 f4 l5 hr3 hms 1000 (Nat.le_refl _))); have CN := Lib.hid (fun (W : World) (hb : Below w.heap.size w W) (s : ByteArray) => arbiterref06_named.calls 1001 g (csOf es) s _ W ⟨base, v, h.below hb⟩ (named_ok es hlen s 1001 (by omega))); have CI := Lib.hid (fun (W : World) (hb : Below w.heap.size w W) (i : Int) => arbiterref06_IsIface.calls g (csOf es) i _ W ⟨base, v, h.below hb⟩ (isif_ok es i)); have CH := Lib.hid (fun W => Fl.has_any f3 512 W); unfold Fl.band at CH; have hgl := blk_lt h.blk; obtain ⟨Av, cv, rfl⟩ := Kd.R_slice h.row; have hle := Lib.hid (cs_len es); clear h h2 h5 hf hms; generalize hck : chkC ⟨f0, f1, l2, f3, f4, l5⟩ = r at *; replace hck := Lib.hid hck; have C1 := Lib.hid (CK.out _ AB.out); go_enter Tryz.func49, Tryz.ntmps49; go_wp2_with fail; refine C1.out.mono ?_; rintro e w1 ⟨rfl, hb1⟩; have HB := Lib.hid (AB.out.trans (hb1.mono AB.out.size)); have B1 := Lib.hid (blk_below B0.out hb1); clear hb1 C1 CK AB B0
 by_cases h0 : r = 0
 ·subst h0
  obtain ⟨s0, s1, s2, s3, s5⟩ := SS.out rfl; replace s3 := Lib.hid s3; replace s5 := Lib.hid s5; have q0 : w1.cell? ⟨g, 0, none⟩ = some (.slice Av (csOf es).length cv) := (blk_cell (HW.out.below HB.out).blk 0).trans rfl
  by_cases h300 : es.length ≥ 300
  ·have hd : decide (((csOf es).length : Int) ≥ 300) = true := decide_eq_true (by have := hle.out; omega)
   have hT : Hid (T = csOf es) := Lib.hid (by rw [hst.out, decide_eq_true h300]; rfl); clear hst; go_wp2; go_ret2
   exact rno HW.out hbs HB.out hT.out _ _
  ·have hd : decide (((csOf es).length : Int) ≥ 300) = false := decide_eq_false (by have := hle.out; omega)
   have hst1 : Hid (T = if (decide (rnm es f0 < 0) && ((aboveF es ⟨f0, f1, l2, f3, f4, l5⟩ f1 false).2 == 0 && l2.all fun n => (aboveF es ⟨f0, f1, l2, f3, f4, l5⟩ n true).2 == 0)) = true then csOf es ++ [⟨f0, f1, l2, f3, f4, l5⟩] else csOf es) := Lib.hid (by rw [hst.out, decide_eq_false h300]; rfl); clear hst; have y0 : w1.cell? ⟨w.heap.size, 0, none⟩ = some (.string f0) := (blk_cell B1.out 0).trans rfl; have CN0 := Lib.hid (CN.out w1 HB.out f0); go_wp2_with fail; refine CN0.out.mono ?_; rintro e w2 ⟨rfl, ⟨nd, rfl⟩⟩; have HB2 := Lib.hid (pw_below_drewN HB.out nd); have B2 := Lib.hid (blk_drewN B1.out nd); clear CN0 q0 y0; generalize w1.drewN nd = w2 at *; clear HB B1
   by_cases hn : rnm es f0 < 0
   ·have hd2 : decide (rnm es f0 ≥ 0) = false := decide_eq_false (by omega)
    have hst2 : Hid (T = if ((aboveF es ⟨f0, f1, l2, f3, f4, l5⟩ f1 false).2 == 0 && l2.all fun n => (aboveF es ⟨f0, f1, l2, f3, f4, l5⟩ n true).2 == 0) = true then csOf es ++ [⟨f0, f1, l2, f3, f4, l5⟩] else csOf es) := Lib.hid (by rw [hst1.out, decide_eq_true hn]; rfl); have y1 : w2.cell? ⟨w.heap.size, 1, none⟩ = some (.string f1) := (blk_cell B2.out 1).trans rfl; have CN1 := Lib.hid (CN.out w2 HB2.out f1); have hsup := Lib.hid (sup_ok es ⟨f0, f1, l2, f3, f4, l5⟩ f1); have hrin := Lib.hid (@rnm_in es f1); clear hst1 hn; go_wp2_with fail; refine CN1.out.mono ?_; rintro e w3 ⟨rfl, ⟨nd3, rfl⟩⟩; have HB3 := Lib.hid (pw_below_drewN HB2.out nd3); have B3 := Lib.hid (blk_drewN B2.out nd3); clear CN1 y1 hd2; generalize w2.drewN nd3 = w3 at *; clear HB2 B2; generalize rnm es f1 = s at *
    by_cases hs : s < 0
    ·have hd3 : decide (s < 0) = true := decide_eq_true hs
     have hT : Hid (T = csOf es) := Lib.hid (by rw [hst2.out, hsup.out, hd3]; rfl); clear hs; go_wp2; go_ret2
     exact rno HW.out hbs HB3.out hT.out _ _
    ·have hd3 : decide (s < 0) = false := decide_eq_false hs
     obtain ⟨hs0, hs1, -⟩ := hrin.out (by omega); clear hrin
     have hs1' : s < ((csOf es).length : Int) := by have := hle.out; omega
     rw [hd3, Bool.not_false, Bool.true_and] at hsup; have CI1 := Lib.hid (CI.out w3 HB3.out s); have hin : Hid ((inB es s && isI (ent es s).c) = isI (ent es s).c) := Lib.hid (by unfold inB; rw [decide_eq_true ⟨hs0, hs1⟩, Bool.true_and]); rw [hin.out] at CI1; have hfp : Hid ((ent es s).c.f0.size < 4611686018427387904) := Lib.hid (HF.out _ (List.mem_of_getElem? (get_ent hs0 hs1))).2.1; have hic : Hid (isI (⟨f0, f1, l2, f3, f4, l5⟩ : S85) = (Go.bits .and .i64 f3 512 != 0)) := Lib.hid rfl; rw [hic.out] at hsup; obtain ⟨Ar, cr, ev, hlr, RC⟩ := Kd.R_reads HW.out.row; injection ev with ea eb ec; subst ea ec; obtain ⟨ad, P2, pc2, P5, pc5, rfl, p0, p1, p2, p3, p4, p5, hp2, KP2, hp5, KP5⟩ := at_T85 (Kd.C_below RC HB3.out) s hs0 hs1'; rw [cs_rd hs0 hs1] at p0 p1 p2 p3 p4 p5 hp2 KP2 hp5 KP5; clear eb hs RC hin; generalize (ent es s).c = p at *; have CO := Lib.hid (fun W (hb : Below w3.heap.size w3 W) => arbiterref06_open.calls f0 f1 A2 c2 l2 f3 f4 A5 c5 l5 p.f0 p.f1 P2 pc2 p.f2 p.f3 p.f4 P5 pc5 p.f5 _ W (Kd.C_below H2.out (HB3.out.trans (hb.mono HB3.out.size))) hc2 (Kd.C_below H5.out (HB3.out.trans (hb.mono HB3.out.size))) hc5 (Kd.C_below KP2 hb) hp2 (Kd.C_below KP5 hb) hp5 (open_ok ⟨f0, f1, l2, f3, f4, l5⟩ p (by show f0.size < _; omega) hfp.out)); replace KP2 := Lib.hid KP2; replace KP5 := Lib.hid KP5; generalize isI p = ip at *; generalize (Go.bits .and .i64 f3 512 != 0) = ic at *
     go_upto_region 10 with (fail)
     go_cut [0, 3, 6, 40] (fun v0 v3 v6 v40 wr => v0 = .pointer (some ⟨g, 0, none⟩) ∧ v3 = .pointer (some ⟨w.heap.size, 0, none⟩) ∧ v6 = .int .i64 s ∧ v40 = .bool (ip || (ic && s != 0)) ∧ Hid (wr.heap[w.heap.size]? = some (.cells #[.string f0, .string f1, .slice A2 l2.length c2, .int .i64 f3, .int .i64 f4, .slice A5 l5.length c5] 85 (0, 0))) ∧ Hid (Below w3.heap.size w3 wr))
     case first =>
      go_wp2_with fail; refine CI1.out.mono ?_; rintro e w4 ⟨rfl, hb4⟩; have B4 := Lib.hid (blk_below B3.out hb4); replace hb4 := Lib.hid hb4
      cases ip with
      | true =>
       go_wp2; go_meet
       case rel => exact ⟨rfl, rfl, rfl, rfl, B4, hb4⟩
      | false =>
       have y3 : w4.cell? ⟨w.heap.size, 3, none⟩ = some (.int .i64 f3) := (blk_cell B4.out 3).trans rfl; go_wp2_with fail; refine (CH.out _).mono ?_; rintro e w5 ⟨rfl, rfl⟩
       cases ic with
       | false =>
        go_wp2; go_meet
        case rel => exact ⟨rfl, rfl, rfl, rfl, B4, hb4⟩
       | true =>
        go_wp2; go_meet
        case rel => exact ⟨rfl, rfl, rfl, by first | rfl | simp, B4, hb4⟩
     case rest =>
      clear B3; obtain ⟨rfl, rfl, rfl, rfl, B4, hb4⟩ := hcut
      cases hbad : (ip || (ic && s != 0)) with
      | true =>
       have hT : Hid (T = csOf es) := Lib.hid (by rw [hst2.out, hsup.out, hbad]; rfl); clear hbad; go_wp2; go_ret2
       exact rno HW.out hbs (HB3.out.trans (hb4.out.mono HB3.out.size)) hT.out _ _
      | false =>
       rw [hbad, Bool.not_false, Bool.true_and] at hsup; clear hbad
       go_upto_region 12 with (fail)
       generalize hob : (Go.bits .and .i64 p.f3 1 != 0 || tog ⟨f0, f1, l2, f3, f4, l5⟩ p) = ob at *; clear hob
       go_cut [0, 3, 50] (fun v0 v3 v50 wr => v0 = .pointer (some ⟨g, 0, none⟩) ∧ v3 = .pointer (some ⟨w.heap.size, 0, none⟩) ∧ v50 = .bool (!ob) ∧ Hid (wr.heap[w.heap.size]? = some (.cells #[.string f0, .string f1, .slice A2 l2.length c2, .int .i64 f3, .int .i64 f4, .slice A5 l5.length c5] 85 (0, 0))) ∧ Hid (Below w.heap.size w wr))
       case first =>
        have q0 : wc.cell? ⟨g, 0, none⟩ = some (.slice (some ad) (csOf es).length cv) := (blk_cell (HW.out.below (HB3.out.trans (hb4.out.mono HB3.out.size))).blk 0).trans rfl; have y0 : wc.cell? ⟨w.heap.size, 0, none⟩ = some (.string f0) := (blk_cell B4.out 0).trans rfl; have y1 : wc.cell? ⟨w.heap.size, 1, none⟩ = some (.string f1) := (blk_cell B4.out 1).trans rfl; have y2 : wc.cell? ⟨w.heap.size, 2, none⟩ = some (.slice A2 l2.length c2) := (blk_cell B4.out 2).trans rfl; have y3 : wc.cell? ⟨w.heap.size, 3, none⟩ = some (.int .i64 f3) := (blk_cell B4.out 3).trans rfl; have y4 : wc.cell? ⟨w.heap.size, 4, none⟩ = some (.int .i64 f4) := (blk_cell B4.out 4).trans rfl; have y5 : wc.cell? ⟨w.heap.size, 5, none⟩ = some (.slice A5 l5.length c5) := (blk_cell B4.out 5).trans rfl; replace p0 := pw_cell_below hb4.out p0; replace p1 := pw_cell_below hb4.out p1; replace p2 := pw_cell_below hb4.out p2; replace p3 := pw_cell_below hb4.out p3; replace p4 := pw_cell_below hb4.out p4; replace p5 := pw_cell_below hb4.out p5
        go_region_with (go_at_call 92; refine (CO.out _ (by repeat (first | exact hb4.out | apply below_drew1 | apply pw_below_drewN))).mono ?_; rintro e w5 ⟨rfl, hb5⟩; have hb6 : Hid (Below wc.heap.size wc w5) := Lib.hid ⟨hb5.os, hb5.tape, hb5.output, hb5.size, hb5.block⟩; clear hb5)
        all_goals
         try go_wp2
         go_meet
         case rel => exact ⟨rfl, rfl, rfl, Lib.hid (blk_below B4.out hb6.out), Lib.hid ((HB3.out.trans (hb4.out.mono HB3.out.size)).trans (hb6.out.mono (HB3.out.trans (hb4.out.mono HB3.out.size)).size))⟩
       case rest =>
        clear B4 hb4 CO KP2 KP5 p0 p1 p2 p3 p4 p5 hp2 hp5 CI1 hfp HB3; obtain ⟨rfl, rfl, rfl, B5, HB5⟩ := hcut
        cases ob with
        | false =>
         have hT : Hid (T = csOf es) := Lib.hid (by rw [hst2.out, hsup.out]; rfl); go_wp2; go_ret2
         exact rno HW.out hbs HB5.out hT.out _ _
        | true =>
         rw [Bool.not_true]; have hst3 : Hid (T = if (l2.all fun n => (aboveF es ⟨f0, f1, l2, f3, f4, l5⟩ n true).2 == 0) = true then csOf es ++ [⟨f0, f1, l2, f3, f4, l5⟩] else csOf es) := Lib.hid (by rw [hst2.out, hsup.out]; rfl); clear hst2 hsup hd3 hs0 hs1 hs1' hic CH
         go_upto_region 14 with (fail)
         go_wp2_with fail
         go_loopw [7] (fun v7 wr => ∃ j : Nat, j ≤ l2.length ∧ v7 = .int .i64 j ∧ Hid (((l2.take j).all fun n => (aboveF es ⟨f0, f1, l2, f3, f4, l5⟩ n true).2 == 0) = true) ∧ Hid (wr.heap[w.heap.size]? = some (.cells #[.string f0, .string f1, .slice A2 l2.length c2, .int .i64 f3, .int .i64 f4, .slice A5 l5.length c5] 85 (0, 0))) ∧ Hid (Below w.heap.size w wr)) (fun v7 _ => l2.length - (intOf v7).toNat)
         case atStart => exact ⟨0, Nat.zero_le _, rfl, Lib.hid (by simp), B5, HB5⟩
         case round =>
          clear B5 HB5; obtain ⟨j, hj, rfl, HT, B6, HB6⟩ := hrel; have y2 : wr.cell? ⟨w.heap.size, 2, none⟩ = some (.slice A2 l2.length c2) := (blk_cell B6.out 2).trans rfl
          by_cases hlt : j < l2.length
          ·have hjd : decide (j < l2.length) = true := decide_eq_true hlt
           obtain ⟨ad2, cc, rfl, hcl, hKK, hic⟩ := Kd.C_get (Kd.C_below H2.out HB6.out) ByteArray.empty (j : Int) (by omega) (by omega); have hx := rd_at hlt; obtain rfl : cc = [.string (rdOf ByteArray.empty l2 (j : Int))] := hKK; have hic := hic 0 _ rfl; rw [show Kd.string.sz = 1 from rfl, Nat.mul_one, Nat.add_zero, Int.toNat_natCast] at hic; generalize rdOf ByteArray.empty l2 (j : Int) = n at *; have haok := Lib.hid (if_ok es ⟨f0, f1, l2, f3, f4, l5⟩ n)
           have hbad : Hid (((aboveF es ⟨f0, f1, l2, f3, f4, l5⟩ n true).2 == 0) = false → T = csOf es) := Lib.hid (fun h => by
            rw [hst3.out, bad_all (p := fun n => (aboveF es ⟨f0, f1, l2, f3, f4, l5⟩ n true).2 == 0) hx h]; rfl)
           have hgood : Hid (((aboveF es ⟨f0, f1, l2, f3, f4, l5⟩ n true).2 == 0) = true → ((l2.take (j + 1)).all fun n => (aboveF es ⟨f0, f1, l2, f3, f4, l5⟩ n true).2 == 0) = true) := Lib.hid (fun h => all_take (p := fun n => (aboveF es ⟨f0, f1, l2, f3, f4, l5⟩ n true).2 == 0) hx h HT.out); have hrin := Lib.hid (@rnm_in es n); have CN1 := Lib.hid (CN.out wr HB6.out n); generalize ((aboveF es ⟨f0, f1, l2, f3, f4, l5⟩ n true).2 == 0) = aok at *; clear HT hx hcl; go_wp2_with fail; refine CN1.out.mono ?_; rintro e w7 ⟨rfl, ⟨nd7, rfl⟩⟩; have HB7 := Lib.hid (pw_below_drewN HB6.out nd7); have B7 := Lib.hid (blk_drewN B6.out nd7); clear CN1 y2 hic; generalize wr.drewN nd7 = w7 at *; clear HB6 B6; generalize rnm es n = k at *
           by_cases hs : k < 0
           ·have hd3 : decide (k < 0) = true := decide_eq_true hs
            have hT := Lib.hid (hbad.out (by rw [haok.out, hd3]; rfl)); clear hs; go_wp2; go_ret2
            exact rno HW.out hbs HB7.out hT.out _ _
           ·have hd3 : decide (k < 0) = false := decide_eq_false hs
            obtain ⟨hs0, hs1, -⟩ := hrin.out (by omega); clear hrin
            have hs1' : k < ((csOf es).length : Int) := by have := hle.out; omega
            rw [hd3, Bool.not_false, Bool.true_and] at haok; have CI1 := Lib.hid (CI.out w7 HB7.out k); have hin : Hid ((inB es k && isI (ent es k).c) = isI (ent es k).c) := Lib.hid (by unfold inB; rw [decide_eq_true ⟨hs0, hs1⟩, Bool.true_and]); rw [hin.out] at CI1; have hfp : Hid ((ent es k).c.f0.size < 4611686018427387904) := Lib.hid (HF.out _ (List.mem_of_getElem? (get_ent hs0 hs1))).2.1; obtain ⟨Ar, cr, ev, hlr, RC⟩ := Kd.R_reads HW.out.row; injection ev with ea eb ec; subst ec; obtain ⟨ad', P2, pc2, P5, pc5, ea', p0, p1, p2, p3, p4, p5, hp2, KP2, hp5, KP5⟩ := at_T85 (Kd.C_below RC HB7.out) k hs0 hs1'; rw [ea'] at ea; injection ea with ea; subst ea; rw [cs_rd hs0 hs1] at p0 p1 p2 p3 p4 p5 hp2 KP2 hp5 KP5; clear eb hs RC hin ea'; generalize (ent es k).c = p at *; have CO := Lib.hid (fun W (hb : Below w7.heap.size w7 W) => arbiterref06_open.calls f0 f1 (some ad2) c2 l2 f3 f4 A5 c5 l5 p.f0 p.f1 P2 pc2 p.f2 p.f3 p.f4 P5 pc5 p.f5 _ W (Kd.C_below H2.out (HB7.out.trans (hb.mono HB7.out.size))) hc2 (Kd.C_below H5.out (HB7.out.trans (hb.mono HB7.out.size))) hc5 (Kd.C_below KP2 hb) hp2 (Kd.C_below KP5 hb) hp5 (open_ok ⟨f0, f1, l2, f3, f4, l5⟩ p (by show f0.size < _; omega) hfp.out)); replace KP2 := Lib.hid KP2; replace KP5 := Lib.hid KP5; generalize isI p = ip at *; generalize (Go.bits .and .i64 p.f3 1 != 0 || tog ⟨f0, f1, l2, f3, f4, l5⟩ p) = ob at *; go_wp2_with fail; refine CI1.out.mono ?_; rintro e w8 ⟨rfl, hb8⟩; have B8 := Lib.hid (blk_below B7.out hb8); replace hb8 := Lib.hid hb8; clear CI1 B7
            cases ip with
            | false =>
             have hT := Lib.hid (hbad.out (by rw [haok.out]; rfl)); go_wp2; go_ret2
             exact rno HW.out hbs (HB7.out.trans (hb8.out.mono HB7.out.size)) hT.out _ _
            | true =>
             rw [Bool.true_and] at haok
             go_upto_region 22 with (fail)
             go_cut [0, 3, 7, 80] (fun v0 v3 v7 v80 wr => v0 = .pointer (some ⟨g, 0, none⟩) ∧ v3 = .pointer (some ⟨w.heap.size, 0, none⟩) ∧ v7 = .int .i64 j ∧ v80 = .bool (!ob) ∧ Hid (wr.heap[w.heap.size]? = some (.cells #[.string f0, .string f1, .slice (some ad2) l2.length c2, .int .i64 f3, .int .i64 f4, .slice A5 l5.length c5] 85 (0, 0))) ∧ Hid (Below w.heap.size w wr))
             case first =>
              have q0 : w8.cell? ⟨g, 0, none⟩ = some (.slice (some ad) (csOf es).length cv) := (blk_cell (HW.out.below (HB7.out.trans (hb8.out.mono HB7.out.size))).blk 0).trans rfl; have y0 : w8.cell? ⟨w.heap.size, 0, none⟩ = some (.string f0) := (blk_cell B8.out 0).trans rfl; have y1 : w8.cell? ⟨w.heap.size, 1, none⟩ = some (.string f1) := (blk_cell B8.out 1).trans rfl; have y2 : w8.cell? ⟨w.heap.size, 2, none⟩ = some (.slice (some ad2) l2.length c2) := (blk_cell B8.out 2).trans rfl; have y3 : w8.cell? ⟨w.heap.size, 3, none⟩ = some (.int .i64 f3) := (blk_cell B8.out 3).trans rfl; have y4 : w8.cell? ⟨w.heap.size, 4, none⟩ = some (.int .i64 f4) := (blk_cell B8.out 4).trans rfl; have y5 : w8.cell? ⟨w.heap.size, 5, none⟩ = some (.slice A5 l5.length c5) := (blk_cell B8.out 5).trans rfl; replace p0 := pw_cell_below hb8.out p0; replace p1 := pw_cell_below hb8.out p1; replace p2 := pw_cell_below hb8.out p2; replace p3 := pw_cell_below hb8.out p3; replace p4 := pw_cell_below hb8.out p4; replace p5 := pw_cell_below hb8.out p5
              go_region_with (go_at_call 92; refine (CO.out _ (by repeat (first | exact hb8.out | apply below_drew1 | apply pw_below_drewN))).mono ?_; rintro e w5 ⟨rfl, hb5⟩; have hb6 : Hid (Below w8.heap.size w8 w5) := Lib.hid ⟨hb5.os, hb5.tape, hb5.output, hb5.size, hb5.block⟩; clear hb5)
              all_goals
               try go_wp2
               go_meet
               case rel => exact ⟨rfl, rfl, rfl, rfl, Lib.hid (blk_below B8.out hb6.out), Lib.hid ((HB7.out.trans (hb8.out.mono HB7.out.size)).trans (hb6.out.mono (HB7.out.trans (hb8.out.mono HB7.out.size)).size))⟩
             case rest =>
              clear B8 hb8 CO KP2 KP5 p0 p1 p2 p3 p4 p5 hp2 hp5 hfp HB7; obtain ⟨rfl, rfl, rfl, rfl, B9, HB9⟩ := hcut
              cases ob with
              | false =>
               have hT := Lib.hid (hbad.out haok.out); go_wp2; go_ret2
               exact rno HW.out hbs HB9.out hT.out _ _
              | true =>
               rw [Bool.not_true]; have hg1 := Lib.hid (hgood.out haok.out); go_wp2
               exact ⟨⟨j + 1, by omega, by push_cast; rfl, hg1, B9, HB9⟩, by simp [intOf]; omega⟩
          ·have hjd : decide (j < l2.length) = false := decide_eq_false hlt
           have hjl : j = l2.length := by omega
           have h1 := HT.out; rw [hjl, List.take_length] at h1; have hT : Hid (T = csOf es ++ [⟨f0, f1, l2, f3, f4, l5⟩]) := Lib.hid (by rw [hst3.out, h1]; rfl); clear h1 hst3 HT hjl
           go_upto_region 24 with (fail)
           have HWr := Lib.hid (HW.out.below HB6.out); have q0 : wr.cell? ⟨g, 0, none⟩ = some (.slice (some ad) (csOf es).length cv) := (blk_cell HWr.out.blk 0).trans rfl; have y0 : wr.cell? ⟨w.heap.size, 0, none⟩ = some (.string f0) := (blk_cell B6.out 0).trans rfl; have y1 : wr.cell? ⟨w.heap.size, 1, none⟩ = some (.string f1) := (blk_cell B6.out 1).trans rfl; have y2 : wr.cell? ⟨w.heap.size, 2, none⟩ = some (.slice A2 l2.length c2) := (blk_cell B6.out 2).trans rfl; have y3 : wr.cell? ⟨w.heap.size, 3, none⟩ = some (.int .i64 f3) := (blk_cell B6.out 3).trans rfl; have y4 : wr.cell? ⟨w.heap.size, 4, none⟩ = some (.int .i64 f4) := (blk_cell B6.out 4).trans rfl; have y5 : wr.cell? ⟨w.heap.size, 5, none⟩ = some (.slice A5 l5.length c5) := (blk_cell B6.out 5).trans rfl; have kq := blk_frozen HWr.out.blk 0; have hwb : base ≤ wr.heap.size := Nat.le_trans hbs HB6.out.size; have hgl2 : g < wr.heap.size := blk_lt HWr.out.blk; have hgn := Lib.hid (Kd.R_ne HWr.out.row HWr.out.blk (by decide))
           have hvb : Hid (∀ k, (Value.slice (some ad) (csOf es).length cv).ownBlock = some k → k < wr.heap.size) := Lib.hid (fun k hk => by
            obtain ⟨inner, ho⟩ := Kd.R_own HWr.out.row; obtain ⟨cells, hc⟩ := own_typed ho k hk
            exact blk_lt hc)
           have CP := Lib.hid (fun W (hb : Below wr.heap.size wr W) => rcopy_any f0 f1 A2 c2 l2 f3 f4 A5 c5 l5 W (Kd.C_below H2.out (HB6.out.trans (hb.mono HB6.out.size))) (Kd.C_below H5.out (HB6.out.trans (hb.mono HB6.out.size))) (by omega) s5.out); clear y2 B6
           go_cut [0, 3] (fun v0 v3 wf => ∃ v1, v0 = .pointer (some ⟨g, 0, none⟩) ∧ Hid (RIn wf base g v1 (csOf es ++ [⟨f0, f1, l2, f3, f4, l5⟩])) ∧ Hid (Below base w wf))
           case first =>
            go_region_law (first
             | (refine Kd.R_append_step k85 (W := w5) (w0 := w5) base (by rfl) (.tmp 85) (.tmp 88) 22 85 (.agg #[.string ⟨#[]⟩, .string ⟨#[]⟩, .slice none 0 0, .int .i64 0, .int .i64 0, .slice none 0 0]) 96 (by rfl) Tryz.underlying22 infoClass rfl (by decide) (by omega) _ (csOf es) ⟨f0, f1, l2, f3, f4, l5⟩ [.string f0, .string f1, .slice Ac2 l2.length cc2, .int .i64 f3, .int .i64 f4, .slice Ac5 l5.length cc5] (fun _ => True) (fun k => wr.heap.size ≤ k) (by rfl) (by rfl) (HM.out) (HN.out) (fun _ _ => trivial) (Kd.R_below HWr.out.row hb6.out) (Below.refl _ _) (Nat.le_trans hwb hb6.out.size) (by have := hle.out; omega) ?_; intro v1 w6 h1 h2 h3 h4; obtain ⟨A9, c9, rfl⟩ := Kd.R_slice h1; rw [show (csOf es ++ [(⟨f0, f1, l2, f3, f4, l5⟩ : S85)]).length = (csOf es).length + 1 by simp] at h1; have kx := (h3.frozen_far ⟨g, 0, none⟩ (Nat.lt_of_lt_of_le hgl2 hb6.out.size) hgn.out).trans kq6.out; have qx := (h3.cell_far ⟨g, 0, none⟩ (Nat.lt_of_lt_of_le hgl2 hb6.out.size) hgn.out).trans qq6.out; have hblk := Lib.hid (blk_grown (blk_below HWr.out.blk hb6.out) h3 hgn.out); replace h1 := Lib.hid h1; replace h2 := Lib.hid h2; clear h3 h4)
             | (go_simp; go_at_call 93; refine (CP.out _ (by repeat (first | exact Below.refl _ _ | apply below_drew1 | apply pw_below_drewN))).mono ?_; rintro e w5 ⟨v2', v5', rfl, R2, R5, hb5⟩; have hb6 : Hid (Below wr.heap.size wr w5) := Lib.hid ⟨hb5.os, hb5.tape, hb5.output, hb5.size, hb5.block⟩; obtain ⟨Ac2, cc2, rfl⟩ := Kd.R_slice R2; obtain ⟨Ac5, cc5, rfl⟩ := Kd.R_slice R5; have kq6 := Lib.hid (blk_frozen (blk_below HWr.out.blk hb6.out) 0); have qq6 := Lib.hid (pw_cell_below hb6.out q0); have qq7 := qq6.out; have qq8 := cell_allocs qq7; have HM := Lib.hid (k85_mkM w5 base (fun k => wr.heap.size ≤ k) ⟨f0, f1, l2, f3, f4, l5⟩ (Kd.R_lower (Kd.R_mono (Kd.R_bound R2) (fun k hk => (show wr.heap.size ≤ k from hk.2.1))) hwb) (Kd.R_lower (Kd.R_mono (Kd.R_bound R5) (fun k hk => (show wr.heap.size ≤ k from hk.2.1))) hwb)); have HN : Hid (∀ k, wr.heap.size ≤ k → True ∧ some k ≠ (Value.slice (some ad) (csOf es).length cv).ownBlock) := Lib.hid (fun k hk => ⟨trivial, fun e => by have := hvb.out k e.symm; omega⟩); clear R2 R5 hb5))
            all_goals have NR := Lib.hid (show RIn (w6.setCell ⟨g, 0, none⟩ (.slice A9 ((csOf es).length + 1) c9)) base g (.slice A9 ((csOf es).length + 1) c9) (csOf es ++ [⟨f0, f1, l2, f3, f4, l5⟩]) from ⟨HWr.out.hg, blk_put hblk.out 0 _ rfl, Kd.R_set h1.out hblk.out (by decide) 0 _⟩)
            all_goals have NB := Lib.hid (((HB6.out.mono hbs).trans ((hb6.out.mono hwb).trans h2.out)).setCell (p := ⟨g, 0, none⟩) HWr.out.hg (.slice A9 ((csOf es).length + 1) c9))
            all_goals clear h1 h2 kx qx hblk HM HN hb6 kq6 qq6 qq7 qq8
            all_goals try go_wp2
            all_goals go_meet
            all_goals (case rel => exact ⟨_, rfl, NR, NB⟩)
           case rest =>
            clear q0 y0 y1 y3 y4 y5 HWr kq hgn hvb CP HB6; obtain ⟨v1, rfl, NR, NB⟩ := hcut; obtain ⟨A9, c9, rfl⟩ := Kd.R_slice NR.out.row; have q9 : wc.cell? ⟨g, 0, none⟩ = some (.slice A9 (csOf es ++ [(⟨f0, f1, l2, f3, f4, l5⟩ : S85)]).length c9) := (blk_cell NR.out.blk 0).trans rfl; go_wp2; go_ret2
            exact ⟨_, _, rfl, _, by rw [hT.out]; exact NR.out, NB.out⟩
   ·have hd2 : decide (rnm es f0 ≥ 0) = true := decide_eq_true (by omega)
    have hT : Hid (T = csOf es) := Lib.hid (by rw [hst1.out, decide_eq_false hn]; rfl); clear hst1 hn; go_wp2; go_ret2
    exact rno HW.out hbs HB2.out hT.out _ _
 ·have hne : (r != 0) = true := bne_iff_ne.2 h0
  have hT : Hid (T = csOf es) := Lib.hid (by rw [hst.out, beq_eq_false_iff_ne.2 h0]; rfl); clear hst h0; go_wp2; go_ret2
  exact rno HW.out hbs HB.out hT.out _ _
end Go.Proofs.YtaipkdglhfhhiaaGreatDoor.Pt

namespace Go.Proofs.YtaipkdglhfhhiaaGreatDoor.Pt
open Go Go.RowKit Go.Proofs.YtaipkdglhfhhiaaGreatDoor.Nm Go.Proofs.YtaipkdglhfhhiaaGreatDoor.Hi Go.Proofs.YtaipkdglhfhhiaaGreatDoorW.PrintWords Go.Proofs.YtaipkdglhfhhiaaGreatDoorW.PrintLast Go.Proofs.YtaipkdglhfhhiaaGreatDoorW.PrintMore
set_option linter.unusedVariables false
set_option linter.unusedSimpArgs false
set_option maxHeartbeats 2000000
set_option maxRecDepth 100000
theorem rd44 {l : List S85} {i : Nat} (h : i < l.length) : l[i]? = some (rd_T85 l (i : Int)) := by
 simp [rd_T85, List.getD_eq_getElem?_getD, List.getElem?_eq_getElem h]
def arbiterlaw07_built.f (l0 : List (S85)) : Option (List Hi.Ent) := some (builtF l0)
def arbiterlaw08_built.f (l0 : List (S85)) : Option (List Hi.Ent) := some (builtF l0)
def arbiterlaw15_built.f (l0 : List (S85)) : Option (List Hi.Ent) := some (builtF l0)
theorem arbiterlaw15_built.calls (A0 : Option Addr) (c0 : Nat) (l0 : List (S85)) (r : List Hi.Ent) (w : World) (hr0 : Kd.C k85 w A0 l0.length l0) (hc0 : l0.length ≤ c0) (h : arbiterlaw15_built.f l0 = some r) :
  Calls Tryz.prog 24 #[.slice A0 l0.length c0] w fun e w' => ∃ G_, e = .returned (.pointer (some ⟨G_, 0, none⟩)) ∧ WOK w' G_ r ∧ Below w.heap.size w w' := by
 obtain rfl := Option.some.inj h; have HR := Lib.hid hr0; have hmax := Kd.C_max hr0; clear h hr0; go_enter Tryz.func24, Tryz.ntmps24; go_wp2_with fail; refine (new_any _).mono ?_; rintro e w1 ⟨g, v, mb, ps, rfl, hI, hb⟩; have HI := Lib.hid hI; have HB := Lib.hid hb; clear hI hb; go_wp2_with fail
 go_loopw [4] (fun v4 wr => ∃ j : Nat, j ≤ l0.length ∧ v4 = .int .i64 j ∧ Hid (∃ v ps, WIn wr w.heap.size g v mb ps (builtF (l0.take j))) ∧ Hid (Below w.heap.size w wr)) (fun v4 _ => l0.length - (intOf v4).toNat)
 case atStart => exact ⟨0, Nat.zero_le _, rfl, Lib.hid ⟨_, _, HI.out⟩, HB⟩
 case round =>
  clear HI HB; obtain ⟨j, hj, rfl, HI, HB⟩ := hrel
  by_cases hlt : j < l0.length
  ·have hjd : decide (j < l0.length) = true := decide_eq_true hlt
   obtain ⟨ad, A2, c2, A5, c5, rfl, q0, q1, q2, q3, q4, q5, hc2, K2, hc5, K5⟩ := at_T85 (Kd.C_below HR.out HB.out) (j : Int) (by omega) (by omega); have hx := rd44 hlt; rw [Int.toNat_natCast] at q0 q1 q2 q3 q4 q5; generalize rd_T85 l0 (j : Int) = x at *; obtain ⟨v, ps, hI⟩ := HI.out
   have hst : Hid (builtF (l0.take (j + 1)) = stepF (builtF (l0.take j)) x) := Lib.hid (by
    unfold builtF; rw [List.take_add_one, hx, List.foldl_append]
    rfl)
   have DF := Lib.hid (define_any wr w.heap.size g v mb ps _ hI HB.out.size (good_made (made_built _)) x.f0 x.f1 A2 c2 x.f2 x.f3 x.f4 A5 c5 x.f5 K2 hc2 K5 hc5 (chkC x) rfl (fun h => by
    obtain ⟨s0, s1, s2, s3, s5⟩ := sound_sizes h
    exact ⟨by omega, by omega, by omega, fun n hn => by have := s3 n hn; omega, s5⟩))
   clear K2 K5 hI HI hx; obtain ⟨n0, n1, n2, n3, n4, n5⟩ := x; go_wp2_with fail; refine DF.out.mono ?_; rintro e w2 ⟨rfl, v', ps', I2, hb2, hk2⟩; replace I2 := Lib.hid I2; have HB2 := Lib.hid (HB.out.trans hb2); clear hb2 hk2 DF HB q0 q1 q2 q3 q4 q5; go_wp2
   exact ⟨⟨j + 1, by omega, by push_cast; rfl, Lib.hid ⟨_, _, by rw [hst.out]; exact I2.out⟩, HB2⟩, by simp [intOf]; omega⟩
  ·have hjd : decide (j < l0.length) = false := decide_eq_false hlt
   have e1 : j = l0.length := by omega
   subst e1; rw [List.take_length] at HI; go_wp2; go_ret; obtain ⟨v, ps, hI⟩ := HI.out; have hg := good_made (made_built l0)
   exact ⟨g, rfl, ⟨⟨_, _, _, _, hI⟩, hg.fine, hg.tree, by have := hg.len; omega⟩, HB.out⟩
end Go.Proofs.YtaipkdglhfhhiaaGreatDoor.Pt

namespace Go.Proofs.YtaipkdglhfhhiaaGreatDoor.Pt
open Go Go.RowKit Go.Proofs.YtaipkdglhfhhiaaGreatDoor.Nm Go.Proofs.YtaipkdglhfhhiaaGreatDoor.Hi Go.Proofs.YtaipkdglhfhhiaaGreatDoorW.PrintWords Go.Proofs.YtaipkdglhfhhiaaGreatDoorW.PrintLast Go.Proofs.YtaipkdglhfhhiaaGreatDoorW.PrintMore
set_option linter.unusedVariables false
set_option linter.unusedSimpArgs false
set_option maxHeartbeats 2000000
set_option maxRecDepth 100000
def goodC (c : S85) : Bool := inRB c.f3 && c.f5.all fun m => inRB m.f2
def arbiterref06_Of.f (l0 : List (S85)) : Option (List (S85)) := if l0.all goodC = true then some (csOf (builtF l0)) else none
theorem arbiterref06_Of.calls (A0 : Option Addr) (c0 : Nat) (l0 : List (S85)) (r : List (S85)) (w : World) (hr0 : Kd.C k85 w A0 l0.length l0) (hc0 : l0.length ≤ c0) (h : arbiterref06_Of.f l0 = some r) :
  Calls Tryz.prog 13 #[.slice A0 l0.length c0] w fun e w' => ∃ G_, e = .returned (.pointer (some ⟨G_, 0, none⟩)) ∧ ROK w' G_ r ∧ Below w.heap.size w w' := by
 unfold arbiterref06_Of.f at h; obtain ⟨hg, h⟩ := if_some h; obtain rfl := Option.some.inj h; have HR := Lib.hid hr0; have HG := Lib.hid hg; have hmax := Kd.C_max hr0; clear h hr0 hg; go_enter Tryz.func13, Tryz.ntmps13; go_wp2_with fail; refine (rnew_any _).mono ?_; rintro e w1 ⟨g, v, rfl, hI, hb⟩; have HI := Lib.hid hI; have HB := Lib.hid hb; clear hI hb; go_wp2_with fail
 go_loopw [4] (fun v4 wr => ∃ j : Nat, j ≤ l0.length ∧ v4 = .int .i64 j ∧ Hid (∃ v, RIn wr w.heap.size g v (csOf (builtF (l0.take j)))) ∧ Hid (Below w.heap.size w wr)) (fun v4 _ => l0.length - (intOf v4).toNat)
 case atStart => exact ⟨0, Nat.zero_le _, rfl, Lib.hid ⟨_, HI.out⟩, HB⟩
 case round =>
  clear HI HB; obtain ⟨j, hj, rfl, HI, HB⟩ := hrel
  by_cases hlt : j < l0.length
  ·have hjd : decide (j < l0.length) = true := decide_eq_true hlt
   obtain ⟨ad, A2, c2, A5, c5, rfl, q0, q1, q2, q3, q4, q5, hc2, K2, hc5, K5⟩ := at_T85 (Kd.C_below HR.out HB.out) (j : Int) (by omega) (by omega); have hx := rd44 hlt; rw [Int.toNat_natCast] at q0 q1 q2 q3 q4 q5; generalize rd_T85 l0 (j : Int) = x at *; obtain ⟨v, hI⟩ := HI.out
   have hst : Hid (builtF (l0.take (j + 1)) = stepF (builtF (l0.take j)) x) := Lib.hid (by
    unfold builtF; rw [List.take_add_one, hx, List.foldl_append]
    rfl)
   have hgx : goodC x = true := List.all_eq_true.1 HG.out x (List.mem_of_getElem? hx); unfold goodC at hgx; rw [Bool.and_eq_true, List.all_eq_true] at hgx; have hgd := good_made (made_built (l0.take j)); have DF := Lib.hid (rdefine_any wr w.heap.size g v _ hI HB.out.size hgd.fine (by have := hgd.len; omega) x.f0 x.f1 A2 c2 x.f2 x.f3 x.f4 A5 c5 x.f5 K2 hc2 K5 hc5 hgx.1 hgx.2); clear K2 K5 hI HI hx hgx hgd; obtain ⟨n0, n1, n2, n3, n4, n5⟩ := x; go_wp2_with fail; refine DF.out.mono ?_; rintro e w2 ⟨nn, er, rfl, v', I2, hb2⟩; replace I2 := Lib.hid I2; have HB2 := Lib.hid (HB.out.trans hb2); clear hb2 DF HB q0 q1 q2 q3 q4 q5; go_wp2
   exact ⟨⟨j + 1, by omega, by push_cast; rfl, Lib.hid ⟨_, by rw [hst.out]; exact I2.out⟩, HB2⟩, by simp [intOf]; omega⟩
  ·have hjd : decide (j < l0.length) = false := decide_eq_false hlt
   have e1 : j = l0.length := by omega
   subst e1; rw [List.take_length] at HI; go_wp2; go_ret; obtain ⟨v, hI⟩ := HI.out
   exact ⟨g, rfl, ⟨_, _, hI⟩, HB.out⟩
end Go.Proofs.YtaipkdglhfhhiaaGreatDoor.Pt

namespace Go.Proofs.YtaipkdglhfhhiaaGreatDoor.Pt
open Go Go.RowKit Go.Proofs.YtaipkdglhfhhiaaGreatDoor.Nm Go.Proofs.YtaipkdglhfhhiaaGreatDoor.Hi Go.Proofs.YtaipkdglhfhhiaaGreatDoorW.PrintWords Go.Proofs.YtaipkdglhfhhiaaGreatDoorW.PrintLast Go.Proofs.YtaipkdglhfhhiaaGreatDoorW.PrintMore
set_option linter.unusedVariables false
set_option linter.unusedSimpArgs false
set_option maxHeartbeats 2000000
set_option maxRecDepth 100000
theorem test_new : display_Test.f newE 1 0 = some (true, 1, 0) := by
 unfold display_Test.f
 decide +kernel
def arbiterlaw15_awake.f : Option Bool := some true
theorem arbiterlaw15_awake.calls (r : Bool) (w : World) (h : arbiterlaw15_awake.f = some r) : Calls Tryz.prog 22 #[] w fun e w' => e = .returned (.bool r) ∧ Below w.heap.size w w' := by
 obtain rfl := Option.some.inj h; go_enter Tryz.func22, Tryz.ntmps22; go_wp2_with fail; refine (new_any _).mono ?_; rintro e w1 ⟨g, v, mb, ps, rfl, hI, hb⟩; have HO := Lib.hid (display_Test.calls g newE 1 0 true 1 0 w1 (wok_new hI) test_new); have HB := Lib.hid hb; clear hI hb; go_wp2_with fail; refine HO.out.mono ?_; rintro e w2 ⟨rfl, hb2⟩; have HB2 := Lib.hid (HB.out.trans (hb2.mono HB.out.size)); clear hb2; go_wp2; go_ret
 exact ⟨rfl, HB2.out⟩
end Go.Proofs.YtaipkdglhfhhiaaGreatDoor.Pt

namespace Go.Proofs.YtaipkdglhfhhiaaGreatDoor.Pt
open Go.RowKit Go.Proofs.YtaipkdglhfhhiaaGreatDoorW.PrintWords Go.Proofs.YtaipkdglhfhhiaaGreatDoorW.PrintLast Go.Proofs.YtaipkdglhfhhiaaGreatDoorW.PrintMore
attribute [local go_sem] max2_int min2_int max_two min_two max_three min_three max_four min_four   -- for this text's walks alone
set_option linter.unusedVariables false
set_option linter.unusedSimpArgs false
def arbiterlaw15_DisplayTests.f (k : Nat) (l0 : List (S85)) (a1 : Int) (a2 : Int) : Option (Bool) := (arbiterlaw15_awake.f).bind fun t546 => (if t546 = true then ((arbiterlaw15_built.f l0).bind fun t547 => ((display_Test.f t547 a1 a2).bind fun bt548 => ((arbiterref06_Of.f l0).bind fun t551 => ((arbiterref15_Test.f k t551 a1 a2).bind fun bt552 => (if (bt548.1 == bt552.1) = true then (if bt548.2.1 = bt552.2.1 then (some (bt548.2.2 == bt552.2.2)) else (some false)) else (some false)))))) else (some false))
set_option maxHeartbeats 8000000 in
set_option maxRecDepth 100000 in
theorem arbiterlaw15_DisplayTests.calls (k : Nat) (A0 : Option Addr) (c0 : Nat) (l0 : List (S85)) (a1 : Int) (a2 : Int) (r : Bool) (w : World) (hr0 : Kd.C k85 w A0 l0.length l0) (hc0 : l0.length ≤ c0) (h : arbiterlaw15_DisplayTests.f k l0 a1 a2 = some r) :
  Calls Tryz.prog 5 #[.slice A0 l0.length c0, .int .i64 a1, .int .i64 a2] w fun e w' => e = .returned (.bool r) ∧ Below w.heap.size w w' := by
 have HR0 := Aside0.mk hr0; have HC0 := Aside0.mk hc0; clear hr0 hc0; have HB := Aside0.mk (Below.refl w.heap.size w); have H : ((arbiterlaw15_awake.f).bind fun t546 => (if t546 = true then ((arbiterlaw15_built.f l0).bind fun t547 => ((display_Test.f t547 a1 a2).bind fun bt548 => ((arbiterref06_Of.f l0).bind fun t551 => ((arbiterref15_Test.f k t551 a1 a2).bind fun bt552 => (if (bt548.1 == bt552.1) = true then (if bt548.2.1 = bt552.2.1 then (some (bt548.2.2 == bt552.2.2)) else (some false)) else (some false)))))) else (some false))) = some r := h; clear h; replace H := Option.bind_eq_some_iff.mp H; obtain ⟨t546, A40, H⟩ := H; replace H : (if t546 = true then ((arbiterlaw15_built.f l0).bind fun t547 => ((display_Test.f t547 a1 a2).bind fun bt548 => ((arbiterref06_Of.f l0).bind fun t551 => ((arbiterref15_Test.f k t551 a1 a2).bind fun bt552 => (if (bt548.1 == bt552.1) = true then (if bt548.2.1 = bt552.2.1 then (some (bt548.2.2 == bt552.2.2)) else (some false)) else (some false)))))) else (some false)) = some r := H; have A4 := Aside0.mk A40; clear A40
 by_cases c5 : t546 = true
 ·subst c5
  have H1 : ((arbiterlaw15_built.f l0).bind fun t547 => ((display_Test.f t547 a1 a2).bind fun bt548 => ((arbiterref06_Of.f l0).bind fun t551 => ((arbiterref15_Test.f k t551 a1 a2).bind fun bt552 => (if (bt548.1 == bt552.1) = true then (if bt548.2.1 = bt552.2.1 then (some (bt548.2.2 == bt552.2.2)) else (some false)) else (some false)))))) = some r := by rw [if_pos rfl] at H; exact H
  clear H; have H := H1; clear H1; replace H := Option.bind_eq_some_iff.mp H; obtain ⟨t547, A60, H⟩ := H; replace H : ((display_Test.f t547 a1 a2).bind fun bt548 => ((arbiterref06_Of.f l0).bind fun t551 => ((arbiterref15_Test.f k t551 a1 a2).bind fun bt552 => (if (bt548.1 == bt552.1) = true then (if bt548.2.1 = bt552.2.1 then (some (bt548.2.2 == bt552.2.2)) else (some false)) else (some false))))) = some r := H; have A6 := Aside0.mk A60; clear A60; replace H := Option.bind_eq_some_iff.mp H; obtain ⟨⟨t548, t549, t550⟩, A70, H⟩ := H; replace H : ((arbiterref06_Of.f l0).bind fun t551 => ((arbiterref15_Test.f k t551 a1 a2).bind fun bt552 => (if (t548 == bt552.1) = true then (if t549 = bt552.2.1 then (some (t550 == bt552.2.2)) else (some false)) else (some false)))) = some r := H; have A7 := Aside0.mk A70; clear A70; replace H := Option.bind_eq_some_iff.mp H; obtain ⟨t551, A80, H⟩ := H; replace H : ((arbiterref15_Test.f k t551 a1 a2).bind fun bt552 => (if (t548 == bt552.1) = true then (if t549 = bt552.2.1 then (some (t550 == bt552.2.2)) else (some false)) else (some false))) = some r := H; have A8 := Aside0.mk A80; clear A80; replace H := Option.bind_eq_some_iff.mp H; obtain ⟨⟨t552, t553, t554⟩, A90, H⟩ := H; replace H : (if (t548 == t552) = true then (if t549 = t553 then (some (t550 == t554)) else (some false)) else (some false)) = some r := H; have A9 := Aside0.mk A90; clear A90
  by_cases c10 : (t548 == t552) = true
  ·rw [if_pos c10] at H
   have c10b0 : (t548 == t552) = true := c10
   (try (have c10b1 : decide (t548 = t552) = true := by simpa using c10))
   (try (have c10b2 : (t548 == t552) = true := by simpa using c10))
   clear c10
   by_cases c11 : t549 = t553
   ·rw [if_pos c11] at H
    have c11b0 : (t549 == t553) = true := beq_iff_eq.mpr c11; have c11b1 : (t549 != t553) = false := bne_eq_false_iff_eq.mpr c11; clear c11; obtain rfl := Option.some.inj H; go_enter Tryz.func5, Tryz.ntmps5; go_wp2_with (first | ((with_reducible refine gate_callee (f := 22) rfl ?_); refine goesL_ (some 13) rfl rfl Tryz.func22 (by kernel_rfl) rfl #[] rfl (by (try simp only [List.map_toArray, List.map_cons, List.map_nil]); first | done | rfl | (simp only [List.length_drop, List.length_take]; rfl)) ?_; (with_reducible refine (arbiterlaw15_awake.calls  true _ A4.out).mono ?_); rintro e w12 ⟨rfl, hb⟩; refine ⟨_, rfl, ?_⟩; have n0_ := Aside0.mk (below_step (bX HB) hb); clear HB; have HB := n0_; clear n0_; (try clear hb); (try clear hb2); (try clear hk); (try clear hi)) | ((with_reducible refine gate_callee (f := 24) rfl ?_); refine goesL_ (some 17) rfl rfl Tryz.func24 (by kernel_rfl) rfl #[.slice A0 l0.length c0] rfl (by (try simp only [List.map_toArray, List.map_cons, List.map_nil]); first | done | rfl | (simp only [List.length_drop, List.length_take]; rfl)) ?_; (with_reducible refine (arbiterlaw15_built.calls _ _ l0 t547 _ ?side1 ?side2 A6.out).mono ?_); (case side1 => repeat (first | exact (Kd.C_below HR0.out HB.out) | (with_reducible refine Kd.C_alloc ?_ _) | (with_reducible refine Kd.C_drewN ?_ _) | (with_reducible refine Kd.C_drew ?_))); (case side2 => exact HC0.out); rintro e w13 ⟨G_t547, rfl, hqt547, hb⟩; refine ⟨_, rfl, ?_⟩; have n0_ := Aside0.mk (hqt547); have n1_ := Aside0.mk (below_step (bX HB) hb); clear HB; have HQt547 := n0_; have HB := n1_; clear n0_ n1_; (try clear hb); (try clear hb2); (try clear hk); (try clear hi)) | ((with_reducible refine gate_callee (f := 23) rfl ?_); refine goesL_ (some 20) rfl rfl Tryz.func23 (by kernel_rfl) rfl #[.pointer (some ⟨G_t547, 0, none⟩), .int .i64 a1, .int .i64 a2] rfl (by (try simp only [List.map_toArray, List.map_cons, List.map_nil]); first | done | rfl | (simp only [List.length_drop, List.length_take]; rfl)) ?_; (with_reducible refine (display_Test.calls G_t547 t547 a1 a2 t548 t549 t550 _ ?side1 A7.out).mono ?_); (case side1 => repeat (first | (with_reducible exact HQt547.out) | (with_reducible refine WOK.alloc ?_ _) | (with_reducible refine WOK.drewN ?_ _) | (with_reducible refine WOK.drew ?_))); rintro e w14 ⟨rfl, hb⟩; refine ⟨_, rfl, ?_⟩; have n0_ := Aside0.mk (WOK.below (g := G_t547) (es := t547) (by repeat (first | (with_reducible exact HQt547.out) | (with_reducible refine WOK.alloc ?_ _) | (with_reducible refine WOK.drewN ?_ _) | (with_reducible refine WOK.drew ?_))) hb); have n1_ := Aside0.mk (below_step (bX HB) hb); clear HQt547; clear HB; have HQt547 := n0_; have HB := n1_; clear n0_ n1_; (try clear hb); (try clear hb2); (try clear hk); (try clear hi)) | ((with_reducible refine gate_callee (f := 13) rfl ?_); refine goesL_ (some 26) rfl rfl Tryz.func13 (by kernel_rfl) rfl #[.slice A0 l0.length c0] rfl (by (try simp only [List.map_toArray, List.map_cons, List.map_nil]); first | done | rfl | (simp only [List.length_drop, List.length_take]; rfl)) ?_; (with_reducible refine (arbiterref06_Of.calls _ _ l0 t551 _ ?side1 ?side2 A8.out).mono ?_); (case side1 => repeat (first | exact (Kd.C_below HR0.out HB.out) | (with_reducible refine Kd.C_alloc ?_ _) | (with_reducible refine Kd.C_drewN ?_ _) | (with_reducible refine Kd.C_drew ?_))); (case side2 => exact HC0.out); rintro e w15 ⟨G_t551, rfl, hqt551, hb⟩; refine ⟨_, rfl, ?_⟩; have n0_ := Aside0.mk (WOK.below (g := G_t547) (es := t547) (by repeat (first | (with_reducible exact HQt547.out) | (with_reducible refine WOK.alloc ?_ _) | (with_reducible refine WOK.drewN ?_ _) | (with_reducible refine WOK.drew ?_))) hb); have n1_ := Aside0.mk (hqt551); have n2_ := Aside0.mk (below_step (bX HB) hb); clear HQt547; clear HB; have HQt547 := n0_; have HQt551 := n1_; have HB := n2_; clear n0_ n1_ n2_; (try clear hb); (try clear hb2); (try clear hk); (try clear hi)) | ((with_reducible refine gate_callee (f := 25) rfl ?_); refine goesL_ (some 29) rfl rfl Tryz.func25 (by kernel_rfl) rfl #[.pointer (some ⟨G_t551, 0, none⟩), .int .i64 a1, .int .i64 a2] rfl (by (try simp only [List.map_toArray, List.map_cons, List.map_nil]); first | done | rfl | (simp only [List.length_drop, List.length_take]; rfl)) ?_; (with_reducible refine (arbiterref15_Test.calls k G_t551 t551 a1 a2 t552 t553 t554 _ ?side1 A9.out).mono ?_); (case side1 => repeat (first | (with_reducible exact HQt551.out) | (with_reducible refine ROK.alloc ?_ _) | (with_reducible refine ROK.drewN ?_ _) | (with_reducible refine ROK.drew ?_))); rintro e w16 ⟨rfl, hb⟩; refine ⟨_, rfl, ?_⟩; have n0_ := Aside0.mk (WOK.below (g := G_t547) (es := t547) (by repeat (first | (with_reducible exact HQt547.out) | (with_reducible refine WOK.alloc ?_ _) | (with_reducible refine WOK.drewN ?_ _) | (with_reducible refine WOK.drew ?_))) hb); have n1_ := Aside0.mk (ROK.below (g := G_t551) (cs := t551) (by repeat (first | (with_reducible exact HQt551.out) | (with_reducible refine ROK.alloc ?_ _) | (with_reducible refine ROK.drewN ?_ _) | (with_reducible refine ROK.drew ?_))) hb); have n2_ := Aside0.mk (below_step (bX HB) hb); clear HQt547; clear HQt551; clear HB; have HQt547 := n0_; have HQt551 := n1_; have HB := n2_; clear n0_ n1_ n2_; (try clear hb); (try clear hb2); (try clear hk); (try clear hi))); go_ret
    exact ⟨by first | rfl | (simp [errW_none, errW_some] <;> rfl) | (simp [*, errW_none, errW_some] <;> rfl), bX HB⟩
   ·rw [if_neg c11] at H
    have c11b0 : (t549 == t553) = false := beq_eq_false_iff_ne.mpr c11; have c11b1 : (t549 != t553) = true := bne_iff_ne.mpr c11; obtain rfl := Option.some.inj H; go_enter Tryz.func5, Tryz.ntmps5; go_wp2_with (first | ((with_reducible refine gate_callee (f := 22) rfl ?_); refine goesL_ (some 13) rfl rfl Tryz.func22 (by kernel_rfl) rfl #[] rfl (by (try simp only [List.map_toArray, List.map_cons, List.map_nil]); first | done | rfl | (simp only [List.length_drop, List.length_take]; rfl)) ?_; (with_reducible refine (arbiterlaw15_awake.calls  true _ A4.out).mono ?_); rintro e w17 ⟨rfl, hb⟩; refine ⟨_, rfl, ?_⟩; have n0_ := Aside0.mk (below_step (bX HB) hb); clear HB; have HB := n0_; clear n0_; (try clear hb); (try clear hb2); (try clear hk); (try clear hi)) | ((with_reducible refine gate_callee (f := 24) rfl ?_); refine goesL_ (some 17) rfl rfl Tryz.func24 (by kernel_rfl) rfl #[.slice A0 l0.length c0] rfl (by (try simp only [List.map_toArray, List.map_cons, List.map_nil]); first | done | rfl | (simp only [List.length_drop, List.length_take]; rfl)) ?_; (with_reducible refine (arbiterlaw15_built.calls _ _ l0 t547 _ ?side1 ?side2 A6.out).mono ?_); (case side1 => repeat (first | exact (Kd.C_below HR0.out HB.out) | (with_reducible refine Kd.C_alloc ?_ _) | (with_reducible refine Kd.C_drewN ?_ _) | (with_reducible refine Kd.C_drew ?_))); (case side2 => exact HC0.out); rintro e w18 ⟨G_t547, rfl, hqt547, hb⟩; refine ⟨_, rfl, ?_⟩; have n0_ := Aside0.mk (hqt547); have n1_ := Aside0.mk (below_step (bX HB) hb); clear HB; have HQt547 := n0_; have HB := n1_; clear n0_ n1_; (try clear hb); (try clear hb2); (try clear hk); (try clear hi)) | ((with_reducible refine gate_callee (f := 23) rfl ?_); refine goesL_ (some 20) rfl rfl Tryz.func23 (by kernel_rfl) rfl #[.pointer (some ⟨G_t547, 0, none⟩), .int .i64 a1, .int .i64 a2] rfl (by (try simp only [List.map_toArray, List.map_cons, List.map_nil]); first | done | rfl | (simp only [List.length_drop, List.length_take]; rfl)) ?_; (with_reducible refine (display_Test.calls G_t547 t547 a1 a2 t548 t549 t550 _ ?side1 A7.out).mono ?_); (case side1 => repeat (first | (with_reducible exact HQt547.out) | (with_reducible refine WOK.alloc ?_ _) | (with_reducible refine WOK.drewN ?_ _) | (with_reducible refine WOK.drew ?_))); rintro e w19 ⟨rfl, hb⟩; refine ⟨_, rfl, ?_⟩; have n0_ := Aside0.mk (WOK.below (g := G_t547) (es := t547) (by repeat (first | (with_reducible exact HQt547.out) | (with_reducible refine WOK.alloc ?_ _) | (with_reducible refine WOK.drewN ?_ _) | (with_reducible refine WOK.drew ?_))) hb); have n1_ := Aside0.mk (below_step (bX HB) hb); clear HQt547; clear HB; have HQt547 := n0_; have HB := n1_; clear n0_ n1_; (try clear hb); (try clear hb2); (try clear hk); (try clear hi)) | ((with_reducible refine gate_callee (f := 13) rfl ?_); refine goesL_ (some 26) rfl rfl Tryz.func13 (by kernel_rfl) rfl #[.slice A0 l0.length c0] rfl (by (try simp only [List.map_toArray, List.map_cons, List.map_nil]); first | done | rfl | (simp only [List.length_drop, List.length_take]; rfl)) ?_; (with_reducible refine (arbiterref06_Of.calls _ _ l0 t551 _ ?side1 ?side2 A8.out).mono ?_); (case side1 => repeat (first | exact (Kd.C_below HR0.out HB.out) | (with_reducible refine Kd.C_alloc ?_ _) | (with_reducible refine Kd.C_drewN ?_ _) | (with_reducible refine Kd.C_drew ?_))); (case side2 => exact HC0.out); rintro e w20 ⟨G_t551, rfl, hqt551, hb⟩; refine ⟨_, rfl, ?_⟩; have n0_ := Aside0.mk (WOK.below (g := G_t547) (es := t547) (by repeat (first | (with_reducible exact HQt547.out) | (with_reducible refine WOK.alloc ?_ _) | (with_reducible refine WOK.drewN ?_ _) | (with_reducible refine WOK.drew ?_))) hb); have n1_ := Aside0.mk (hqt551); have n2_ := Aside0.mk (below_step (bX HB) hb); clear HQt547; clear HB; have HQt547 := n0_; have HQt551 := n1_; have HB := n2_; clear n0_ n1_ n2_; (try clear hb); (try clear hb2); (try clear hk); (try clear hi)) | ((with_reducible refine gate_callee (f := 25) rfl ?_); refine goesL_ (some 29) rfl rfl Tryz.func25 (by kernel_rfl) rfl #[.pointer (some ⟨G_t551, 0, none⟩), .int .i64 a1, .int .i64 a2] rfl (by (try simp only [List.map_toArray, List.map_cons, List.map_nil]); first | done | rfl | (simp only [List.length_drop, List.length_take]; rfl)) ?_; (with_reducible refine (arbiterref15_Test.calls k G_t551 t551 a1 a2 t552 t553 t554 _ ?side1 A9.out).mono ?_); (case side1 => repeat (first | (with_reducible exact HQt551.out) | (with_reducible refine ROK.alloc ?_ _) | (with_reducible refine ROK.drewN ?_ _) | (with_reducible refine ROK.drew ?_))); rintro e w21 ⟨rfl, hb⟩; refine ⟨_, rfl, ?_⟩; have n0_ := Aside0.mk (WOK.below (g := G_t547) (es := t547) (by repeat (first | (with_reducible exact HQt547.out) | (with_reducible refine WOK.alloc ?_ _) | (with_reducible refine WOK.drewN ?_ _) | (with_reducible refine WOK.drew ?_))) hb); have n1_ := Aside0.mk (ROK.below (g := G_t551) (cs := t551) (by repeat (first | (with_reducible exact HQt551.out) | (with_reducible refine ROK.alloc ?_ _) | (with_reducible refine ROK.drewN ?_ _) | (with_reducible refine ROK.drew ?_))) hb); have n2_ := Aside0.mk (below_step (bX HB) hb); clear HQt547; clear HQt551; clear HB; have HQt547 := n0_; have HQt551 := n1_; have HB := n2_; clear n0_ n1_ n2_; (try clear hb); (try clear hb2); (try clear hk); (try clear hi))); go_ret
    exact ⟨by first | rfl | (simp [errW_none, errW_some] <;> rfl) | (simp [*, errW_none, errW_some] <;> rfl), bX HB⟩
  ·rw [if_neg c10] at H
   have c10b0 : (t548 == t552) = false := by simpa using c10
   (try (have c10b1 : decide (t548 = t552) = false := by simpa using c10))
   (try (have c10b2 : (t548 == t552) = false := by simpa using c10))
   (try (have c10b3 : ¬ (t548 = t552) := by simpa using c10))
   clear c10; obtain rfl := Option.some.inj H; go_enter Tryz.func5, Tryz.ntmps5; go_wp2_with (first | ((with_reducible refine gate_callee (f := 22) rfl ?_); refine goesL_ (some 13) rfl rfl Tryz.func22 (by kernel_rfl) rfl #[] rfl (by (try simp only [List.map_toArray, List.map_cons, List.map_nil]); first | done | rfl | (simp only [List.length_drop, List.length_take]; rfl)) ?_; (with_reducible refine (arbiterlaw15_awake.calls  true _ A4.out).mono ?_); rintro e w22 ⟨rfl, hb⟩; refine ⟨_, rfl, ?_⟩; have n0_ := Aside0.mk (below_step (bX HB) hb); clear HB; have HB := n0_; clear n0_; (try clear hb); (try clear hb2); (try clear hk); (try clear hi)) | ((with_reducible refine gate_callee (f := 24) rfl ?_); refine goesL_ (some 17) rfl rfl Tryz.func24 (by kernel_rfl) rfl #[.slice A0 l0.length c0] rfl (by (try simp only [List.map_toArray, List.map_cons, List.map_nil]); first | done | rfl | (simp only [List.length_drop, List.length_take]; rfl)) ?_; (with_reducible refine (arbiterlaw15_built.calls _ _ l0 t547 _ ?side1 ?side2 A6.out).mono ?_); (case side1 => repeat (first | exact (Kd.C_below HR0.out HB.out) | (with_reducible refine Kd.C_alloc ?_ _) | (with_reducible refine Kd.C_drewN ?_ _) | (with_reducible refine Kd.C_drew ?_))); (case side2 => exact HC0.out); rintro e w23 ⟨G_t547, rfl, hqt547, hb⟩; refine ⟨_, rfl, ?_⟩; have n0_ := Aside0.mk (hqt547); have n1_ := Aside0.mk (below_step (bX HB) hb); clear HB; have HQt547 := n0_; have HB := n1_; clear n0_ n1_; (try clear hb); (try clear hb2); (try clear hk); (try clear hi)) | ((with_reducible refine gate_callee (f := 23) rfl ?_); refine goesL_ (some 20) rfl rfl Tryz.func23 (by kernel_rfl) rfl #[.pointer (some ⟨G_t547, 0, none⟩), .int .i64 a1, .int .i64 a2] rfl (by (try simp only [List.map_toArray, List.map_cons, List.map_nil]); first | done | rfl | (simp only [List.length_drop, List.length_take]; rfl)) ?_; (with_reducible refine (display_Test.calls G_t547 t547 a1 a2 t548 t549 t550 _ ?side1 A7.out).mono ?_); (case side1 => repeat (first | (with_reducible exact HQt547.out) | (with_reducible refine WOK.alloc ?_ _) | (with_reducible refine WOK.drewN ?_ _) | (with_reducible refine WOK.drew ?_))); rintro e w24 ⟨rfl, hb⟩; refine ⟨_, rfl, ?_⟩; have n0_ := Aside0.mk (WOK.below (g := G_t547) (es := t547) (by repeat (first | (with_reducible exact HQt547.out) | (with_reducible refine WOK.alloc ?_ _) | (with_reducible refine WOK.drewN ?_ _) | (with_reducible refine WOK.drew ?_))) hb); have n1_ := Aside0.mk (below_step (bX HB) hb); clear HQt547; clear HB; have HQt547 := n0_; have HB := n1_; clear n0_ n1_; (try clear hb); (try clear hb2); (try clear hk); (try clear hi)) | ((with_reducible refine gate_callee (f := 13) rfl ?_); refine goesL_ (some 26) rfl rfl Tryz.func13 (by kernel_rfl) rfl #[.slice A0 l0.length c0] rfl (by (try simp only [List.map_toArray, List.map_cons, List.map_nil]); first | done | rfl | (simp only [List.length_drop, List.length_take]; rfl)) ?_; (with_reducible refine (arbiterref06_Of.calls _ _ l0 t551 _ ?side1 ?side2 A8.out).mono ?_); (case side1 => repeat (first | exact (Kd.C_below HR0.out HB.out) | (with_reducible refine Kd.C_alloc ?_ _) | (with_reducible refine Kd.C_drewN ?_ _) | (with_reducible refine Kd.C_drew ?_))); (case side2 => exact HC0.out); rintro e w25 ⟨G_t551, rfl, hqt551, hb⟩; refine ⟨_, rfl, ?_⟩; have n0_ := Aside0.mk (WOK.below (g := G_t547) (es := t547) (by repeat (first | (with_reducible exact HQt547.out) | (with_reducible refine WOK.alloc ?_ _) | (with_reducible refine WOK.drewN ?_ _) | (with_reducible refine WOK.drew ?_))) hb); have n1_ := Aside0.mk (hqt551); have n2_ := Aside0.mk (below_step (bX HB) hb); clear HQt547; clear HB; have HQt547 := n0_; have HQt551 := n1_; have HB := n2_; clear n0_ n1_ n2_; (try clear hb); (try clear hb2); (try clear hk); (try clear hi)) | ((with_reducible refine gate_callee (f := 25) rfl ?_); refine goesL_ (some 29) rfl rfl Tryz.func25 (by kernel_rfl) rfl #[.pointer (some ⟨G_t551, 0, none⟩), .int .i64 a1, .int .i64 a2] rfl (by (try simp only [List.map_toArray, List.map_cons, List.map_nil]); first | done | rfl | (simp only [List.length_drop, List.length_take]; rfl)) ?_; (with_reducible refine (arbiterref15_Test.calls k G_t551 t551 a1 a2 t552 t553 t554 _ ?side1 A9.out).mono ?_); (case side1 => repeat (first | (with_reducible exact HQt551.out) | (with_reducible refine ROK.alloc ?_ _) | (with_reducible refine ROK.drewN ?_ _) | (with_reducible refine ROK.drew ?_))); rintro e w26 ⟨rfl, hb⟩; refine ⟨_, rfl, ?_⟩; have n0_ := Aside0.mk (WOK.below (g := G_t547) (es := t547) (by repeat (first | (with_reducible exact HQt547.out) | (with_reducible refine WOK.alloc ?_ _) | (with_reducible refine WOK.drewN ?_ _) | (with_reducible refine WOK.drew ?_))) hb); have n1_ := Aside0.mk (ROK.below (g := G_t551) (cs := t551) (by repeat (first | (with_reducible exact HQt551.out) | (with_reducible refine ROK.alloc ?_ _) | (with_reducible refine ROK.drewN ?_ _) | (with_reducible refine ROK.drew ?_))) hb); have n2_ := Aside0.mk (below_step (bX HB) hb); clear HQt547; clear HQt551; clear HB; have HQt547 := n0_; have HQt551 := n1_; have HB := n2_; clear n0_ n1_ n2_; (try clear hb); (try clear hb2); (try clear hk); (try clear hi))); go_ret
   exact ⟨by first | rfl | (simp [errW_none, errW_some] <;> rfl) | (simp [*, errW_none, errW_some] <;> rfl), bX HB⟩
 ·replace c5 := Bool.eq_false_iff.mpr c5
  subst c5
  have H1 : (some false) = some r := by rw [if_neg (show ¬ (false = true) by decide)] at H; exact H
  clear H; have H := H1; clear H1; obtain rfl := Option.some.inj H; go_enter Tryz.func5, Tryz.ntmps5; go_wp2_with (first | ((with_reducible refine gate_callee (f := 22) rfl ?_); refine goesL_ (some 13) rfl rfl Tryz.func22 (by kernel_rfl) rfl #[] rfl (by (try simp only [List.map_toArray, List.map_cons, List.map_nil]); first | done | rfl | (simp only [List.length_drop, List.length_take]; rfl)) ?_; (with_reducible refine (arbiterlaw15_awake.calls  false _ A4.out).mono ?_); rintro e w27 ⟨rfl, hb⟩; refine ⟨_, rfl, ?_⟩; have n0_ := Aside0.mk (below_step (bX HB) hb); clear HB; have HB := n0_; clear n0_; (try clear hb); (try clear hb2); (try clear hk); (try clear hi))); go_ret
  exact ⟨by first | rfl | (simp [errW_none, errW_some] <;> rfl) | (simp [*, errW_none, errW_some] <;> rfl), bX HB⟩
end Go.Proofs.YtaipkdglhfhhiaaGreatDoor.Pt

namespace Go.Proofs.YtaipkdglhfhhiaaGreatDoor.Pt
open Go Go.RowKit Go.Proofs.YtaipkdglhfhhiaaGreatDoor.Nm Go.Proofs.YtaipkdglhfhhiaaGreatDoor.Ty Go.Proofs.YtaipkdglhfhhiaaGreatDoor.Hi Go.Proofs.YtaipkdglhfhhiaaGreatDoorW.PrintWords Go.Proofs.YtaipkdglhfhhiaaGreatDoorW.PrintLast Go.Proofs.YtaipkdglhfhhiaaGreatDoorW.PrintMore
set_option linter.unusedVariables false
set_option linter.unusedSimpArgs false
set_option maxRecDepth 100000
theorem dte_pure (l : List S85) (hl : l.all goodC = true) (a b : Int) : arbiterlaw15_DisplayTests.f 30000 l a b = some true := by
 have hT := thy_made (made_built l); have hn := len_made (made_built l); unfold arbiterlaw15_DisplayTests.f; rw [show arbiterlaw15_awake.f = some true from rfl, Option.bind_some, if_pos rfl, show arbiterlaw15_built.f l = some (builtF l) from rfl, Option.bind_some]; unfold arbiterref06_Of.f; generalize builtF l = es at *; rw [show display_Test.f es a b = some (testF es a b) from rfl, Option.bind_some, if_pos hl, Option.bind_some, rtest_ok hT (by omega) a b 30000 (by omega), Option.bind_some, beq_self_eq_true, if_pos rfl, if_pos rfl, beq_self_eq_true]
theorem dte_any {W : World} {A : Option Addr} {n : Nat} {l : List S85} (hk : Kd.C k85 W A l.length l) (hc : l.length ≤ n) (hg : l.all goodC = true) (a b : Int) :
  Calls Tryz.prog 5 #[.slice A l.length n, .int .i64 a, .int .i64 b] W fun e W' => e = .returned (.bool true) ∧ Below W.heap.size W W' :=
 arbiterlaw15_DisplayTests.calls 30000 _ _ l a b true W hk hc (dte_pure l hg a b)
end Go.Proofs.YtaipkdglhfhhiaaGreatDoor.Pt

namespace Go.Proofs.YtaipkdglhfhhiaaGreatDoor.RowC
open Go Go.RowKit Go.WideShapes Go.Deep Go.Proofs.YtaipkdglhfhhiaaGreatDoorW.PrintWords Go.Proofs.YtaipkdglhfhhiaaGreatDoorW.PrintLast Go.Proofs.YtaipkdglhfhhiaaGreatDoorW.PrintMore Go.Proofs.YtaipkdglhfhhiaaGreatDoor.Pt
set_option linter.unusedVariables false
set_option linter.unusedSimpArgs false
set_option maxRecDepth 100000
variable {H : Type} {enc : TypeId × Value → H} {w : World}
def Opens {H : Type} (enc : TypeId × Value → H) (w : World) (t : TypeId) {α : Type} (d : Kd α) : Prop :=
 ∀ (fuel : Nat) (cs : List Value) (x : DataW H × List MemPlace), DataW.trod enc Tryz.prog w 0 (fun _ => true) true fuel t cs = some x → ∃ a : α, d.K w a cs
theorem opens_int : Opens enc w 3 (Kd.int .i64) := fun fuel cs x h => by
 obtain ⟨n, rfl, _⟩ := DataW.trod_int Tryz.underlying3 h
 exact ⟨n, rfl⟩
theorem opens_bool : Opens enc w 4 Kd.bool := fun fuel cs x h => by
 obtain ⟨n, rfl, _⟩ := DataW.trod_bool Tryz.underlying4 h
 exact ⟨n, rfl⟩
theorem opens_string : Opens enc w 9 Kd.string := fun fuel cs x h => by
 obtain ⟨n, rfl, _⟩ := DataW.trod_string Tryz.underlying9 h
 exact ⟨n, rfl⟩
theorem opens_slice {α : Type} {d : Kd α} {t e : TypeId} (tag : Nat) (ht : Tryz.prog.underlying t = some (.slice e)) (he : Tryz.prog.cellsOf e = d.sz) (ho : Opens enc w e d) : Opens enc w t (Kd.slice tag d) := fun fuel cs x h => by
 rcases open_slice ht h with ⟨rfl, _⟩ | ⟨a, len, cap, m, n, D, Pl, rfl, _, hl, hm, hmm, _, hx⟩
 ·exact ⟨[], none, 0, rfl, Nat.le_refl _, Kd.C_nil _ _⟩
 ·have hmm : m = cap := by simpa using hmm
  have hel : ∀ i : Fin len, ∃ p : α, ∃ c : List Value, c.length = d.sz ∧ d.K w p c ∧ ∀ j u, c[j]? = some u → w.cell? (a.add (i.val * d.sz + j)) = some u := by
   intro i; obtain ⟨cs', h1, h2⟩ := hx i.val (by omega); obtain ⟨p, hp⟩ := ho _ _ _ h2; obtain ⟨_, h3, h4⟩ := World.cells?_some h1; rw [he] at h3 h4; refine ⟨p, cs', h3, hp, fun j u hj => ?_⟩
   have hjl : j < d.sz := by
    rcases Nat.lt_or_ge j d.sz with h | h
    ·exact h
    ·rw [List.getElem?_eq_none (by omega)] at hj; cases hj
   have h5 := h4 j hjl; rw [hj] at h5; rw [← h5]; rw [Addr.add_add]
  let f : Fin len → α := fun i => Classical.choose (hel i)
  have hf : ∀ i : Fin len, ∃ c : List Value, c.length = d.sz ∧ d.K w (f i) c ∧ ∀ j u, c[j]? = some u → w.cell? (a.add (i.val * d.sz + j)) = some u := fun i => Classical.choose_spec (hel i); have hlen : (List.ofFn f).length = len := List.length_ofFn; refine ⟨List.ofFn f, some a, cap, by rw [hlen], by omega, ?_⟩; rw [hlen]; refine ⟨hlen, by unfold maxLen at hm; omega, fun h0 => ⟨a, rfl, fun j p hj => ?_⟩⟩
  have hjl : j < len := by
   rcases Nat.lt_or_ge j len with h | h
   ·exact h
   ·rw [List.getElem?_eq_none (by omega)] at hj; cases hj
  rw [List.getElem?_eq_getElem (by omega), List.getElem_ofFn] at hj; obtain rfl := Option.some.inj hj
  exact hf ⟨j, hjl⟩
theorem cut (cs : List Value) (o n : Nat) : cs.drop o = (cs.drop o).take n ++ cs.drop (o + n) := by
 rw [← List.drop_drop, List.take_append_drop]
theorem field {n : Nat} {fs : Array Field} {cs : List Value} {xs : List (DataW H × List MemPlace)} (hlen : xs.length = fs.size)
  (hf : ∀ (i : Nat) (f : Field), fs[i]? = some f → DataW.trod enc Tryz.prog w 0 (fun _ => true) true n f.type ((cs.drop f.offset).take (Tryz.prog.cellsOf f.type)) = xs[i]?) {α : Type} {d : Kd α} (i : Nat) (f : Field) (hi : fs[i]? = some f) (ho : Opens enc w f.type d) (k : Nat) (hk : Tryz.prog.cellsOf f.type = k) :
  ∃ a : α, d.K w a ((cs.drop f.offset).take k) := by
 have hl : i < fs.size := by
  rcases Nat.lt_or_ge i fs.size with h | h
  ·exact h
  ·rw [Array.getElem?_eq_none h] at hi; cases hi
 have h := hf i f hi; rw [hk, List.getElem?_eq_getElem (by omega)] at h
 exact ho _ _ _ h
theorem opens_Ref : Opens enc w 141 k141 := fun fuel cs x h => by
 obtain ⟨xs, n, _, _, hl, hlen, hf⟩ := DataW.trod_struct Tryz.underlying141 h; rw [show Tryz.prog.cellsOf 141 = 4 by kernel_rfl] at hl; obtain ⟨a0, e0⟩ := field hlen hf 0 _ rfl opens_bool 1 (by kernel_rfl); obtain ⟨a1, e1⟩ := field hlen hf 1 _ rfl opens_string 1 (by kernel_rfl); obtain ⟨a2, e2⟩ := field hlen hf 2 _ rfl opens_string 1 (by kernel_rfl); obtain ⟨a3, e3⟩ := field hlen hf 3 _ rfl opens_string 1 (by kernel_rfl); refine ⟨⟨a0, a1, a2, a3⟩, _, _, cut cs 0 1, e0, _, _, cut cs 1 1, e1, _, _, cut cs 2 1, e2, ?_⟩; rw [List.take_of_length_le (by simp; omega)] at e3
 exact e3
theorem opens_Inst : Opens enc w 143 k143 := fun fuel cs x h => by
 obtain ⟨xs, n, _, _, hl, hlen, hf⟩ := DataW.trod_struct Tryz.underlying143 h; rw [show Tryz.prog.cellsOf 143 = 7 by kernel_rfl] at hl; obtain ⟨a0, e0⟩ := field hlen hf 0 _ rfl opens_int 1 (by kernel_rfl); obtain ⟨a1, e1⟩ := field hlen hf 1 _ rfl opens_int 1 (by kernel_rfl); obtain ⟨a2, e2⟩ := field hlen hf 2 _ rfl opens_string 1 (by kernel_rfl); obtain ⟨a3, e3⟩ := field hlen hf 3 _ rfl opens_Ref 4 (by kernel_rfl); refine ⟨⟨a0, a1, a2, a3⟩, _, _, cut cs 0 1, e0, _, _, cut cs 1 1, e1, _, _, cut cs 2 1, e2, ?_⟩; rw [List.take_of_length_le (by simp; omega)] at e3
 exact e3
theorem opens_Method : Opens enc w 105 k105 := fun fuel cs x h => by
 obtain ⟨xs, n, _, _, hl, hlen, hf⟩ := DataW.trod_struct Tryz.underlying105 h; rw [show Tryz.prog.cellsOf 105 = 6 by kernel_rfl] at hl; obtain ⟨a0, e0⟩ := field hlen hf 0 _ rfl opens_string 1 (by kernel_rfl); obtain ⟨a1, e1⟩ := field hlen hf 1 _ rfl opens_string 1 (by kernel_rfl); obtain ⟨a2, e2⟩ := field hlen hf 2 _ rfl opens_int 1 (by kernel_rfl); obtain ⟨a3, e3⟩ := field hlen hf 3 _ rfl opens_int 1 (by kernel_rfl); obtain ⟨a4, e4⟩ := field hlen hf 4 _ rfl opens_int 1 (by kernel_rfl); obtain ⟨a5, e5⟩ := field hlen hf 5 _ rfl (opens_slice 143 Tryz.underlying103 (by kernel_rfl) opens_Inst) 1 (by kernel_rfl); refine ⟨⟨a0, a1, a2, a3, a4, a5⟩, _, _, cut cs 0 1, e0, _, _, cut cs 1 1, e1, _, _, cut cs 2 1, e2, _, _, cut cs 3 1, e3, _, _, cut cs 4 1, e4, ?_⟩; rw [List.take_of_length_le (by simp; omega)] at e5
 exact e5
theorem opens_Class : Opens enc w 85 k85 := fun fuel cs x h => by
 obtain ⟨xs, n, _, _, hl, hlen, hf⟩ := DataW.trod_struct Tryz.underlying85 h; rw [show Tryz.prog.cellsOf 85 = 6 by kernel_rfl] at hl; obtain ⟨a0, e0⟩ := field hlen hf 0 _ rfl opens_string 1 (by kernel_rfl); obtain ⟨a1, e1⟩ := field hlen hf 1 _ rfl opens_string 1 (by kernel_rfl); obtain ⟨a2, e2⟩ := field hlen hf 2 _ rfl (opens_slice 9 Tryz.underlying82 (by kernel_rfl) opens_string) 1 (by kernel_rfl); obtain ⟨a3, e3⟩ := field hlen hf 3 _ rfl opens_int 1 (by kernel_rfl); obtain ⟨a4, e4⟩ := field hlen hf 4 _ rfl opens_int 1 (by kernel_rfl); obtain ⟨a5, e5⟩ := field hlen hf 5 _ rfl (opens_slice 105 Tryz.underlying83 (by kernel_rfl) opens_Method) 1 (by kernel_rfl); refine ⟨⟨a0, a1, a2, a3, a4, a5⟩, _, _, cut cs 0 1, e0, _, _, cut cs 1 1, e1, _, _, cut cs 2 1, e2, _, _, cut cs 3 1, e3, _, _, cut cs 4 1, e4, ?_⟩; rw [List.take_of_length_le (by simp; omega)] at e5
 exact e5
theorem open_list {base : Nat} {R : Reach} {v : Value} {d : DataW H} {p : List MemPlace} (hv : Value.okWide Tryz.prog w R base 22 v) (h : DataW.Trod enc Tryz.prog w 0 (fun _ => true) true 22 v d p) :
  ∃ (A : Option Addr) (c : Nat) (l : List S85), v = .slice A l.length c ∧ l.length ≤ c ∧ Kd.C k85 w A l.length l := by
 obtain ⟨a, len, cap, rfl⟩ := okWide_slice Tryz.underlying22 hv; obtain ⟨fuel, hf⟩ := h; obtain ⟨l, A, c, e, hc, hk⟩ := opens_slice 85 Tryz.underlying22 (by kernel_rfl) opens_Class _ _ _ hf; have e : [Value.slice a len cap] = [.slice A l.length c] := e
 obtain ⟨rfl, rfl, rfl⟩ : a = A ∧ len = l.length ∧ cap = c := by simpa using e
 exact ⟨_, _, l, rfl, hc, hk⟩
end Go.Proofs.YtaipkdglhfhhiaaGreatDoor.RowC

namespace Go.Proofs.YtaipkdglhfhhiaaGreatDoor.RowR
open Go Go.RowKit Go.WideShapes Go.Deep Go.Proofs.YtaipkdglhfhhiaaGreatDoorW.PrintWords Go.Proofs.YtaipkdglhfhhiaaGreatDoorW.PrintLast Go.Proofs.YtaipkdglhfhhiaaGreatDoorW.PrintMore Go.Proofs.YtaipkdglhfhhiaaGreatDoor.Pt Go.Proofs.YtaipkdglhfhhiaaGreatDoor.RowC
set_option linter.unusedVariables false
set_option linter.unusedSimpArgs false
set_option maxRecDepth 100000
variable {H : Type} {enc : TypeId × Value → H} {w : World}
theorem inRB_wf {f : Int} (h : (Lit.int .i64 f).wf = true) : inRB f = true := by
 have this : IntKind.i64.min ≤ f ∧ f ≤ 9223372036854775807 := by simpa [Lit.wf] using h
 replace this : -9223372036854775808 ≤ f ∧ f ≤ 9223372036854775807 := this; unfold inRB; rw [decide_eq_true this.1, decide_eq_true this.2]; rfl
def OpensP {H : Type} (enc : TypeId × Value → H) (w : World) (t : TypeId) {α : Type} (d : Kd α) (P : α → Prop) : Prop :=
 ∀ (fuel : Nat) (cs : List Value) (x : DataW H × List MemPlace), DataW.trod enc Tryz.prog w 0 (fun _ => true) true fuel t cs = some x → ∃ a : α, d.K w a cs ∧ P a
theorem opensP_int : OpensP enc w 3 (Kd.int .i64) (fun n => inRB n = true) := fun fuel cs x h => by
 obtain ⟨n, rfl, _, hw⟩ := DataW.trod_int Tryz.underlying3 h
 exact ⟨n, rfl, inRB_wf hw⟩
theorem opensP_slice {α : Type} {d : Kd α} {P : α → Prop} {t e : TypeId} (tag : Nat) (ht : Tryz.prog.underlying t = some (.slice e)) (he : Tryz.prog.cellsOf e = d.sz) (ho : OpensP enc w e d P) : OpensP enc w t (Kd.slice tag d) (fun l => ∀ a ∈ l, P a) := fun fuel cs x h => by
 rcases open_slice ht h with ⟨rfl, _⟩ | ⟨a, len, cap, m, n, D, Pl, rfl, _, hl, hm, hmm, _, hx⟩
 ·exact ⟨[], ⟨none, 0, rfl, Nat.le_refl _, Kd.C_nil _ _⟩, fun a ha => by cases ha⟩
 ·have hmm : m = cap := by simpa using hmm
  have hel : ∀ i : Fin len, ∃ p : α, (∃ c : List Value, c.length = d.sz ∧ d.K w p c ∧ ∀ j u, c[j]? = some u → w.cell? (a.add (i.val * d.sz + j)) = some u) ∧ P p := by
   intro i; obtain ⟨cs', h1, h2⟩ := hx i.val (by omega); obtain ⟨p, hp, hq⟩ := ho _ _ _ h2; obtain ⟨_, h3, h4⟩ := World.cells?_some h1; rw [he] at h3 h4; refine ⟨p, ⟨cs', h3, hp, fun j u hj => ?_⟩, hq⟩
   have hjl : j < d.sz := by
    rcases Nat.lt_or_ge j d.sz with h | h
    ·exact h
    ·rw [List.getElem?_eq_none (by omega)] at hj; cases hj
   have h5 := h4 j hjl; rw [hj] at h5; rw [← h5]; rw [Addr.add_add]
  let f : Fin len → α := fun i => Classical.choose (hel i)
  have hf : ∀ i : Fin len, (∃ c : List Value, c.length = d.sz ∧ d.K w (f i) c ∧ ∀ j u, c[j]? = some u → w.cell? (a.add (i.val * d.sz + j)) = some u) ∧ P (f i) := fun i => Classical.choose_spec (hel i); have hlen : (List.ofFn f).length = len := List.length_ofFn; refine ⟨List.ofFn f, ⟨some a, cap, by rw [hlen], by omega, ?_⟩, fun p hp => ?_⟩
  ·rw [hlen]
   refine ⟨hlen, by unfold maxLen at hm; omega, fun h0 => ⟨a, rfl, fun j p hj => ?_⟩⟩
   have hjl : j < len := by
    rcases Nat.lt_or_ge j len with h | h
    ·exact h
    ·rw [List.getElem?_eq_none (by omega)] at hj; cases hj
   rw [List.getElem?_eq_getElem (by omega), List.getElem_ofFn] at hj; obtain rfl := Option.some.inj hj
   exact (hf ⟨j, hjl⟩).1
  ·obtain ⟨i, rfl⟩ := (List.mem_ofFn).1 hp
   exact (hf i).2
theorem fieldP {n : Nat} {fs : Array Field} {cs : List Value} {xs : List (DataW H × List MemPlace)} (hlen : xs.length = fs.size)
  (hf : ∀ (i : Nat) (f : Field), fs[i]? = some f → DataW.trod enc Tryz.prog w 0 (fun _ => true) true n f.type ((cs.drop f.offset).take (Tryz.prog.cellsOf f.type)) = xs[i]?) {α : Type} {d : Kd α} {P : α → Prop} (i : Nat) (f : Field) (hi : fs[i]? = some f) (ho : OpensP enc w f.type d P) (k : Nat) (hk : Tryz.prog.cellsOf f.type = k) :
  ∃ a : α, d.K w a ((cs.drop f.offset).take k) ∧ P a := by
 have hl : i < fs.size := by
  rcases Nat.lt_or_ge i fs.size with h | h
  ·exact h
  ·rw [Array.getElem?_eq_none h] at hi; cases hi
 have h := hf i f hi; rw [hk, List.getElem?_eq_getElem (by omega)] at h
 exact ho _ _ _ h
theorem opensP_Method : OpensP enc w 105 k105 (fun m => inRB m.f2 = true) := fun fuel cs x h => by
 obtain ⟨xs, n, _, _, hl, hlen, hf⟩ := DataW.trod_struct Tryz.underlying105 h; rw [show Tryz.prog.cellsOf 105 = 6 by kernel_rfl] at hl; obtain ⟨a0, e0⟩ := field hlen hf 0 _ rfl opens_string 1 (by kernel_rfl); obtain ⟨a1, e1⟩ := field hlen hf 1 _ rfl opens_string 1 (by kernel_rfl); obtain ⟨a2, e2, p2⟩ := fieldP hlen hf 2 _ rfl opensP_int 1 (by kernel_rfl); obtain ⟨a3, e3⟩ := field hlen hf 3 _ rfl opens_int 1 (by kernel_rfl); obtain ⟨a4, e4⟩ := field hlen hf 4 _ rfl opens_int 1 (by kernel_rfl); obtain ⟨a5, e5⟩ := field hlen hf 5 _ rfl (opens_slice 143 Tryz.underlying103 (by kernel_rfl) opens_Inst) 1 (by kernel_rfl); refine ⟨⟨a0, a1, a2, a3, a4, a5⟩, ⟨_, _, cut cs 0 1, e0, _, _, cut cs 1 1, e1, _, _, cut cs 2 1, e2, _, _, cut cs 3 1, e3, _, _, cut cs 4 1, e4, ?_⟩, p2⟩; rw [List.take_of_length_le (by simp; omega)] at e5
 exact e5
theorem opensP_Class : OpensP enc w 85 k85 (fun c => goodC c = true) := fun fuel cs x h => by
 obtain ⟨xs, n, _, _, hl, hlen, hf⟩ := DataW.trod_struct Tryz.underlying85 h; rw [show Tryz.prog.cellsOf 85 = 6 by kernel_rfl] at hl; obtain ⟨a0, e0⟩ := field hlen hf 0 _ rfl opens_string 1 (by kernel_rfl); obtain ⟨a1, e1⟩ := field hlen hf 1 _ rfl opens_string 1 (by kernel_rfl); obtain ⟨a2, e2⟩ := field hlen hf 2 _ rfl (opens_slice 9 Tryz.underlying82 (by kernel_rfl) opens_string) 1 (by kernel_rfl); obtain ⟨a3, e3, p3⟩ := fieldP hlen hf 3 _ rfl opensP_int 1 (by kernel_rfl); obtain ⟨a4, e4⟩ := field hlen hf 4 _ rfl opens_int 1 (by kernel_rfl); obtain ⟨a5, e5, p5⟩ := fieldP hlen hf 5 _ rfl (opensP_slice 105 Tryz.underlying83 (by kernel_rfl) opensP_Method) 1 (by kernel_rfl); refine ⟨⟨a0, a1, a2, a3, a4, a5⟩, ⟨_, _, cut cs 0 1, e0, _, _, cut cs 1 1, e1, _, _, cut cs 2 1, e2, _, _, cut cs 3 1, e3, _, _, cut cs 4 1, e4, ?_⟩, ?_⟩
 ·rw [List.take_of_length_le (by simp; omega)] at e5
  exact e5
 ·show goodC _ = true
  unfold goodC; rw [Bool.and_eq_true, List.all_eq_true]
  exact ⟨p3, p5⟩
theorem open_list {base : Nat} {R : Reach} {v : Value} {d : DataW H} {p : List MemPlace} (hv : Value.okWide Tryz.prog w R base 22 v) (h : DataW.Trod enc Tryz.prog w 0 (fun _ => true) true 22 v d p) :
  ∃ (A : Option Addr) (c : Nat) (l : List S85), v = .slice A l.length c ∧ l.length ≤ c ∧ Kd.C k85 w A l.length l ∧ l.all goodC = true := by
 obtain ⟨a, len, cap, rfl⟩ := okWide_slice Tryz.underlying22 hv; obtain ⟨fuel, hf⟩ := h; obtain ⟨l, ⟨A, c, e, hc, hk⟩, hp⟩ := opensP_slice 85 Tryz.underlying22 (by kernel_rfl) opensP_Class _ _ _ hf; have e : [Value.slice a len cap] = [.slice A l.length c] := e
 obtain ⟨rfl, rfl, rfl⟩ : a = A ∧ len = l.length ∧ cap = c := by simpa using e
 exact ⟨_, _, l, rfl, hc, hk, List.all_eq_true.2 hp⟩
end Go.Proofs.YtaipkdglhfhhiaaGreatDoor.RowR
