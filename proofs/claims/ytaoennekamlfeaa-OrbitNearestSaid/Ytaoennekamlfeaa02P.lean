/- Chapter 2: MayBeNearest of the program. -/
import Derived.Test.Ytaoennekamlfeaa02O
set_option linter.unusedSimpArgs false
set_option linter.unusedVariables false
namespace Go.Free
open Go.RowKit
theorem blk_put2 {w : World} {g D : Nat} {o o' : Obj} (h : w.heap[g]? = some o) (hne : D ≠ g) : (w.putObj D o').heap[g]? = some o := (World.putObj_heap_other (Ne.symm hne)).trans h
theorem bodyPostE_ret2 {P : Program} {fn : Func} {R : Ending → World → Prop} {a : Act} {w : World} {v : Value} {D E : Nat} (hr : (results fn a.tmps).run P ((w.putObj D (.deferred none)).putObj E (.deferred none)) = .ok v ((w.putObj D (.deferred none)).putObj E (.deferred none)))
    (hd : a.defers = [{ target := .collected D, args := #[] }, { target := .collected E, args := #[] }])
    (hD : w.heap[D]? = some (.deferred (some []))) (hE : w.heap[E]? = some (.deferred (some []))) (hne : D ≠ E) (hR : R (.returned v) ((w.putObj D (.deferred none)).putObj E (.deferred none))) : bodyPostE P fn R .ret a w :=
  ⟨_, by rw [hd]; exact ⟨D, rfl, hD, E, rfl, blk_put2 hE hne, rfl⟩, v, hr, hR⟩
end Go.Free
namespace Go.Proofs.Ytaoennekamlfeaa
open Go.RowKit Go.Ob Go.Shelf
attribute [local go_sem] Oper.semAt_some

set_option maxRecDepth 100000 in
set_option maxHeartbeats 2000000 in
theorem MayBeNearest_err (nm : ByteArray) (bd x y z : Int) (a : Option Addr) (cap : Nat) (l : List St) (w : World) (hO : OrbIn w nm a cap l) (h : plE nm.data.toList bd l x y z ≠ 0) :
    Calls Try.prog 50 #[obV nm bd a l.length cap, v3 x y z] w fun e w' => e = .returned (.tuple #[.agg #[.int .i64 0, .int .i64 0], .int .i64 0, .int .i64 (plE nm.data.toList bd l x y z)]) ∧ Below w.heap.size w w' := by
  have HA := Lib.hid (fun w' (h : OrbIn w' nm a cap l) => pathOf_any nm bd a cap l w' h.nm h.sts h.cap h.len)
  have hE0 : (firstE [(orbE nm.data.toList bd l).2, placeE x y z] != 0) = true := by simpa [plE] using h
  have HO := Lib.hid hO
  unfold plE
  clear h hO
  generalize (orbE nm.data.toList bd l).2 = c at *
  refine Calls.made fun R HR => ?_
  go_enter Try.func50, Try.ntmps50
  go_wp2_with (first | (go_at_call 67; refine (HA.out _ (HO.out.below (by repeat' first | with_reducible exact Below.refl _ _ | with_reducible assumption | with_reducible refine Free.Grow.alloc ?_ _ | with_reducible refine Free.Grow.setCell ?_ (by first | omega | (simp; done) | (simp; omega)) _ | with_reducible refine Free.Grow.drew ?_ | with_reducible refine Free.Grow.trans ?_ (by assumption)))).mono ?_; rintro e w1 ⟨rfl, hb1⟩; have hc1 := (Free.cells_of hb1).1; have hf1 := (Free.cells_of hb1).2; have hz1 := hb1.size; (try simp only [World.size_alloc, World.size_setCell, World.size_drew] at hz1); (try (have : w.heap.size < w1.heap.size := (by omega))); (try (have : w.heap.size < w1.heap.size + 1 := (by omega))); (try (have : w.heap.size < w1.heap.size + 1 + 1 := (by omega))); (try (have : w.heap.size + 1 < w1.heap.size := (by omega))); (try (have : w.heap.size + 1 < w1.heap.size + 1 := (by omega))); (try (have : w.heap.size + 1 < w1.heap.size + 1 + 1 := (by omega))); (try (have : w.heap.size + 1 + 1 < w1.heap.size := (by omega))); (try (have : w.heap.size + 1 + 1 < w1.heap.size + 1 := (by omega))); (try (have : w.heap.size + 1 + 1 < w1.heap.size + 1 + 1 := (by omega))); (try (have : w.heap.size + 1 + 1 + 1 < w1.heap.size := (by omega))); (try (have : w.heap.size + 1 + 1 + 1 < w1.heap.size + 1 := (by omega))); (try (have : w.heap.size + 1 + 1 + 1 < w1.heap.size + 1 + 1 := (by omega)))) | (go_at_call 69; refine (checkPlace_any _ _ _ _).mono ?_; rintro e w2 ⟨rfl, hb2⟩; have hc2 := (Free.cells_of hb2).1; have hf2 := (Free.cells_of hb2).2; have hz2 := hb2.size; (try simp only [World.size_alloc, World.size_setCell, World.size_drew] at hz2); (try (have : w.heap.size < w2.heap.size := (by omega))); (try (have : w.heap.size < w2.heap.size + 1 := (by omega))); (try (have : w.heap.size < w2.heap.size + 1 + 1 := (by omega))); (try (have : w.heap.size + 1 < w2.heap.size := (by omega))); (try (have : w.heap.size + 1 < w2.heap.size + 1 := (by omega))); (try (have : w.heap.size + 1 < w2.heap.size + 1 + 1 := (by omega))); (try (have : w.heap.size + 1 + 1 < w2.heap.size := (by omega))); (try (have : w.heap.size + 1 + 1 < w2.heap.size + 1 := (by omega))); (try (have : w.heap.size + 1 + 1 < w2.heap.size + 1 + 1 := (by omega))); (try (have : w.heap.size + 1 + 1 + 1 < w2.heap.size := (by omega))); (try (have : w.heap.size + 1 + 1 + 1 < w2.heap.size + 1 := (by omega))); (try (have : w.heap.size + 1 + 1 + 1 < w2.heap.size + 1 + 1 := (by omega))); (try (have : w1.heap.size < w2.heap.size := (by omega))); (try (have : w1.heap.size < w2.heap.size + 1 := (by omega))); (try (have : w1.heap.size < w2.heap.size + 1 + 1 := (by omega))); (try (have : w1.heap.size + 1 < w2.heap.size := (by omega))); (try (have : w1.heap.size + 1 < w2.heap.size + 1 := (by omega))); (try (have : w1.heap.size + 1 < w2.heap.size + 1 + 1 := (by omega))); (try (have : w1.heap.size + 1 + 1 < w2.heap.size := (by omega))); (try (have : w1.heap.size + 1 + 1 < w2.heap.size + 1 := (by omega))); (try (have : w1.heap.size + 1 + 1 < w2.heap.size + 1 + 1 := (by omega))); (try (have : w1.heap.size + 1 + 1 + 1 < w2.heap.size := (by omega))); (try (have : w1.heap.size + 1 + 1 + 1 < w2.heap.size + 1 := (by omega))); (try (have : w1.heap.size + 1 + 1 + 1 < w2.heap.size + 1 + 1 := (by omega)))) | (go_at_call 68; refine (first2_any _ c (placeE x y z) _ (by simp [go_sem]) (by simp [go_sem])).mono ?_; rintro e w' ⟨rfl, rfl⟩))
  refine bodyPost_ret (v := .tuple #[.agg #[.int .i64 0, .int .i64 0], .int .i64 0, .int .i64 (firstE [c, placeE x y z])]) (by simp [results, Try.results50, go_sem, *]) rfl ?_
  exact HR.out _ (by repeat' first | with_reducible exact Below.refl _ _ | with_reducible assumption | with_reducible refine Free.Grow.alloc ?_ _ | with_reducible refine Free.Grow.setCell ?_ (by first | omega | (simp; done) | (simp; omega)) _ | with_reducible refine Free.Grow.drew ?_ | with_reducible refine Free.Grow.trans ?_ (by assumption))

set_option maxRecDepth 100000 in
set_option maxHeartbeats 8000000 in
theorem MayBeNearest_ok (nm : ByteArray) (bd x y z : Int) (b off cap : Nat) (l : List St) (w : World) (hO : OrbIn w nm (some ⟨b, off, none⟩) cap l) (hS : HasSts w b off l) (hbw : b < w.heap.size) (h : plE nm.data.toList bd l x y z = 0) :
    Calls Try.prog 50 #[obV nm bd (some ⟨b, off, none⟩) l.length cap, v3 x y z] w fun e w' => e = .returned (.tuple #[.agg #[.int .i64 (mbR bd l x y z).1, .int .i64 (mbR bd l x y z).2], .int .i64 (mbB bd l x y z).1, .int .i64 0]) ∧ Below w.heap.size w w' := by
  have HA := Lib.hid (fun w' (h : OrbIn w' nm (some ⟨b, off, none⟩) cap l) => pathOf_any nm bd (some ⟨b, off, none⟩) cap l w' h.nm h.sts h.cap h.len)
  have hR := (orbE_right ((firstE_two _ _).1 h).1).1
  obtain ⟨hx, hy, hz⟩ := placeE_zero ((firstE_two _ _).1 h).2
  have hn2 := hR.n2
  have hn40 := hR.n40
  have hfl : frstT l ≤ lastT l := hR.le 0 (l.length - 1) (by omega) (by omega)
  have ht0 : 0 ≤ frstT l := (hR.ok 0 (by omega)).t0
  have ht1 : lastT l ≤ 1000000000 := (hR.ok (l.length - 1) (by omega)).t1
  have HNN : Hid ((nTicks l : Int) = lastT l + 1 - frstT l) := by unfold nTicks; show _ = _; omega
  have HBk := Lib.hid (fun (k : Nat) (hk : k < nTicks l) w' (hS' : HasSts w' b off l) (hb' : b < w'.heap.size) => box_any nm bd (frstT l + k) b off cap l w' hR (by omega) (by have := HNN.out; omega) hS' hb' hO.cap)
  have HSk := Lib.hid (fun (k : Nat) (hk : k < nTicks l) w => squares_any (bx bd l (frstT l + k)) x y z w (bx_ok hR (by omega) (by have := HNN.out; omega)) (by omega) (by omega) (by omega) (by omega) (by omega) (by omega))
  have HEA := Lib.hid (fun w' (n₂ : Nat) (hw : w.heap.size ≤ n₂) (hw' : w.heap.size ≤ w'.heap.size) (hS' : HasSts w' b off l) => each_in 7 (by omega) nm bd b off cap l w' hR w.heap.size n₂ hS' hbw hw hw' hO.cap)
  have hE0 : (firstE [(orbE nm.data.toList bd l).2, placeE x y z] != 0) = false := by rw [show firstE [(orbE nm.data.toList bd l).2, placeE x y z] = 0 from h]; rfl
  have HRR : Hid (mbR bd l x y z = rgTo (lsq bd l x y z) (nearTo (hsq bd l x y z) (frstT l) (nTicks l)).2 (frstT l) (nTicks l)) := rfl
  have HBB : Hid (mbB bd l x y z = nearTo (hsq bd l x y z) (frstT l) (nTicks l)) := rfl
  have HHs : Hid (∀ t, hsq bd l x y z t = sqHi (bx bd l t) x y z) := fun t => rfl
  have HLs : Hid (∀ t, lsq bd l x y z t = sqLo (bx bd l t) x y z) := fun t => rfl
  have HO := Lib.hid hO
  have HM := Lib.hid hS
  clear h hO hS hR
  rw [HRR.out, HBB.out]
  generalize (orbE nm.data.toList bd l).2 = c at *
  generalize hsq bd l x y z = f at *
  generalize lsq bd l x y z = g at *
  generalize nTicks l = N at *
  clear HRR HBB
  refine Calls.made fun R HR => ?_
  (refine Free.calls_of_each Try.func50 rfl ?_; simp only [Try.ntmps50, List.size_toArray, List.length_cons, List.length_nil, Nat.reduceAdd, Nat.reduceSub, Array.replicate_succ, Array.replicate_zero, List.push_toArray, List.append_toArray, List.nil_append, List.cons_append])
  go_wp2_with (first | (go_at_call 67; refine (HA.out _ (HO.out.below (by repeat' first | with_reducible exact Below.refl _ _ | with_reducible assumption | with_reducible refine Free.Grow.alloc ?_ _ | with_reducible refine Free.Grow.setCell ?_ (by first | omega | (simp; done) | (simp; omega)) _ | with_reducible refine Free.Grow.drew ?_ | with_reducible refine Free.Grow.trans ?_ (by assumption)))).mono ?_; rintro e w1 ⟨rfl, hb1⟩; have hc1 := (Free.cells_of hb1).1; have hf1 := (Free.cells_of hb1).2; have hz1 := hb1.size; (try simp only [World.size_alloc, World.size_setCell, World.size_drew] at hz1); (try (have : w.heap.size < w1.heap.size := (by omega))); (try (have : w.heap.size < w1.heap.size + 1 := (by omega))); (try (have : w.heap.size < w1.heap.size + 1 + 1 := (by omega))); (try (have : w.heap.size + 1 < w1.heap.size := (by omega))); (try (have : w.heap.size + 1 < w1.heap.size + 1 := (by omega))); (try (have : w.heap.size + 1 < w1.heap.size + 1 + 1 := (by omega))); (try (have : w.heap.size + 1 + 1 < w1.heap.size := (by omega))); (try (have : w.heap.size + 1 + 1 < w1.heap.size + 1 := (by omega))); (try (have : w.heap.size + 1 + 1 < w1.heap.size + 1 + 1 := (by omega))); (try (have : w.heap.size + 1 + 1 + 1 < w1.heap.size := (by omega))); (try (have : w.heap.size + 1 + 1 + 1 < w1.heap.size + 1 := (by omega))); (try (have : w.heap.size + 1 + 1 + 1 < w1.heap.size + 1 + 1 := (by omega)))) | (go_at_call 69; refine (checkPlace_any _ _ _ _).mono ?_; rintro e w2 ⟨rfl, hb2⟩; have hc2 := (Free.cells_of hb2).1; have hf2 := (Free.cells_of hb2).2; have hz2 := hb2.size; (try simp only [World.size_alloc, World.size_setCell, World.size_drew] at hz2); (try (have : w.heap.size < w2.heap.size := (by omega))); (try (have : w.heap.size < w2.heap.size + 1 := (by omega))); (try (have : w.heap.size < w2.heap.size + 1 + 1 := (by omega))); (try (have : w.heap.size + 1 < w2.heap.size := (by omega))); (try (have : w.heap.size + 1 < w2.heap.size + 1 := (by omega))); (try (have : w.heap.size + 1 < w2.heap.size + 1 + 1 := (by omega))); (try (have : w.heap.size + 1 + 1 < w2.heap.size := (by omega))); (try (have : w.heap.size + 1 + 1 < w2.heap.size + 1 := (by omega))); (try (have : w.heap.size + 1 + 1 < w2.heap.size + 1 + 1 := (by omega))); (try (have : w.heap.size + 1 + 1 + 1 < w2.heap.size := (by omega))); (try (have : w.heap.size + 1 + 1 + 1 < w2.heap.size + 1 := (by omega))); (try (have : w.heap.size + 1 + 1 + 1 < w2.heap.size + 1 + 1 := (by omega))); (try (have : w1.heap.size < w2.heap.size := (by omega))); (try (have : w1.heap.size < w2.heap.size + 1 := (by omega))); (try (have : w1.heap.size < w2.heap.size + 1 + 1 := (by omega))); (try (have : w1.heap.size + 1 < w2.heap.size := (by omega))); (try (have : w1.heap.size + 1 < w2.heap.size + 1 := (by omega))); (try (have : w1.heap.size + 1 < w2.heap.size + 1 + 1 := (by omega))); (try (have : w1.heap.size + 1 + 1 < w2.heap.size := (by omega))); (try (have : w1.heap.size + 1 + 1 < w2.heap.size + 1 := (by omega))); (try (have : w1.heap.size + 1 + 1 < w2.heap.size + 1 + 1 := (by omega))); (try (have : w1.heap.size + 1 + 1 + 1 < w2.heap.size := (by omega))); (try (have : w1.heap.size + 1 + 1 + 1 < w2.heap.size + 1 := (by omega))); (try (have : w1.heap.size + 1 + 1 + 1 < w2.heap.size + 1 + 1 := (by omega)))) | (go_at_call 68; refine (first2_any _ c (placeE x y z) _ (by simp [go_sem]) (by simp [go_sem])).mono ?_; rintro e w' ⟨rfl, rfl⟩))
  have hp1 := hb1.size
  have hp2 := hb2.size
  simp only [World.size_alloc] at hp1 hp2
  refine Free.wp_each (d := 11) (gf := 88) (fb := #[obV nm bd (some ⟨b, off, none⟩) l.length cap]) (v := fun k => .int .i64 (frstT l + k)) (N := N) (n₀ := w.heap.size) rfl (enters_of Try.func88 (by kernel_rfl) rfl)
    (HEA.out _ _ (by simp; omega) (by simp; omega) (HM.out.below (B := w.heap.size) (by repeat' first | with_reducible exact Below.refl _ _ | with_reducible assumption | with_reducible refine Free.Grow.alloc ?_ _ | with_reducible refine Free.Grow.setCell ?_ (by first | omega | (simp; done) | (simp; omega)) _ | with_reducible refine Free.Grow.drew ?_ | with_reducible refine Free.Grow.trans ?_ (by assumption)) hbw)) (by simp; omega)
    (fun k W => Below w.heap.size w W ∧ W.heap[w1.heap.size]? = some (.cells #[.string nm, .int .i64 bd, .slice (some ⟨b, off, none⟩) l.length cap] 118 (0, 0)) ∧ W.heap[w.heap.size + 1]? = some (.cells #[.int .i64 x, .int .i64 y, .int .i64 z] 26 (0, 0)) ∧
      W.heap[w.heap.size + 1 + 1]? = some (.cells #[.int .i64 0, .int .i64 0] 44 (0, 0)) ∧
      W.heap[w2.heap.size + 1]? = some (.cells #[.int .i64 (nearTo f (frstT l) k).1] 3 (0, 0)) ∧ W.heap[w2.heap.size + 1 + 1]? = some (.cells #[.int .i64 (nearTo f (frstT l) k).2] 3 (0, 0)))
    (fun _ _ => False) (Free.Bides.and (Free.Bides.below (Nat.le_refl _) (by simp; omega)) (Free.Bides.and (Free.Bides.block (fun _ => _) (by simp; omega)) (Free.Bides.and (Free.Bides.block (fun _ => _) (by simp; omega)) (Free.Bides.and (Free.Bides.block (fun _ => _) (by simp; omega)) (Free.Bides.and (Free.Bides.block (fun k => .cells #[.int .i64 (nearTo f (frstT l) k).1] 3 (0, 0)) (by simp)) (Free.Bides.block (fun k => .cells #[.int .i64 (nearTo f (frstT l) k).2] 3 (0, 0)) (by simp)))))))
    Free.Bides.none ?h0 ?assign ?body ?done (fun _ _ _ _ _ h _ => h.elim)
  case h0 => exact ⟨by repeat' first | with_reducible exact Below.refl _ _ | with_reducible assumption | with_reducible refine Free.Grow.alloc ?_ _ | with_reducible refine Free.Grow.setCell ?_ (by first | omega | (simp; done) | (simp; omega)) _ | with_reducible refine Free.Grow.drew ?_ | with_reducible refine Free.Grow.trans ?_ (by assumption), by repeat' first | with_reducible assumption | with_reducible exact Free.blk_new _ (by first | rfl | (simp; done)) | with_reducible refine Free.blk_alloc_old ?_ | with_reducible refine Free.blk_drew ?_ | with_reducible refine Free.blk_setCell_far ?_ (by first | omega | (simp; done) | (simp; omega)) _ | with_reducible apply Free.blk_setCell_to | (show Array.setIfInBounds _ _ _ = _; first | exact rfl | (simp; done)) | with_reducible refine Free.blk_below ?_ (by assumption), by repeat' first | with_reducible assumption | with_reducible exact Free.blk_new _ (by first | rfl | (simp; done)) | with_reducible refine Free.blk_alloc_old ?_ | with_reducible refine Free.blk_drew ?_ | with_reducible refine Free.blk_setCell_far ?_ (by first | omega | (simp; done) | (simp; omega)) _ | with_reducible apply Free.blk_setCell_to | (show Array.setIfInBounds _ _ _ = _; first | exact rfl | (simp; done)) | with_reducible refine Free.blk_below ?_ (by assumption), by repeat' first | with_reducible assumption | with_reducible exact Free.blk_new _ (by first | rfl | (simp; done)) | with_reducible refine Free.blk_alloc_old ?_ | with_reducible refine Free.blk_drew ?_ | with_reducible refine Free.blk_setCell_far ?_ (by first | omega | (simp; done) | (simp; omega)) _ | with_reducible apply Free.blk_setCell_to | (show Array.setIfInBounds _ _ _ = _; first | exact rfl | (simp; done)) | with_reducible refine Free.blk_below ?_ (by assumption), by simp only [nearTo_zero]; repeat' first | with_reducible assumption | with_reducible exact Free.blk_new _ (by first | rfl | (simp; done)) | with_reducible refine Free.blk_alloc_old ?_ | with_reducible refine Free.blk_drew ?_ | with_reducible refine Free.blk_setCell_far ?_ (by first | omega | (simp; done) | (simp; omega)) _ | with_reducible apply Free.blk_setCell_to | (show Array.setIfInBounds _ _ _ = _; first | exact rfl | (simp; done)) | with_reducible refine Free.blk_below ?_ (by assumption), by simp only [nearTo_zero]; repeat' first | with_reducible assumption | with_reducible exact Free.blk_new _ (by first | rfl | (simp; done)) | with_reducible refine Free.blk_alloc_old ?_ | with_reducible refine Free.blk_drew ?_ | with_reducible refine Free.blk_setCell_far ?_ (by first | omega | (simp; done) | (simp; omega)) _ | with_reducible apply Free.blk_setCell_to | (show Array.setIfInBounds _ _ _ = _; first | exact rfl | (simp; done)) | with_reducible refine Free.blk_below ?_ (by assumption)⟩
  case assign =>
    intro lp k W K hK
    simp only [Free.setTo, List.setIfInBounds_toArray, List.set_cons_zero, List.set_cons_succ] at hK ⊢
    gi_wp2
    exact hK
  case body =>
    rintro lp k W hWz ⟨hBW, k7, k3, k4, k9, k10⟩ hk
    have c7 := Free.cell_of_blk k7
    have c3 := Free.cell_of_blk k3
    have c9 := Free.cell_of_blk k9
    have c10 := Free.cell_of_blk k10
    have l7 := Free.lt_of_blk k7
    have l3 := Free.lt_of_blk k3
    have l4 := Free.lt_of_blk k4
    have l9 := Free.lt_of_blk k9
    have l10 := Free.lt_of_blk k10
    have f9 := Free.frozen_of_blk k9
    have f10 := Free.frozen_of_blk k10
    have hWs := hBW.size
    have HBk' := Lib.hid (HBk.out k hk)
    have HSk' := Lib.hid (HSk.out k hk)
    have HYes := Lib.hid (nearTo_yes (f := f) (a := frstT l) (k := k))
    have HNo := Lib.hid (nearTo_no (f := f) (a := frstT l) (k := k))
    have hEq := Lib.hid (HHs.out (frstT l + k))
    have HS := Lib.hid (HM.out.below (B := w.heap.size) hBW hbw)
    simp only [World.size_alloc] at hWz
    simp only [Free.setTo, List.setIfInBounds_toArray, List.set_cons_zero, List.set_cons_succ]
    generalize (nearTo f (frstT l) k) = q at *
    obtain ⟨q1, q2⟩ := q
    simp only at c9 c10 HYes HNo
    generalize bx bd l (frstT l + k) = p at *
    generalize sqHi p x y z = s1 at *
    generalize sqLo p x y z = s0 at *
    by_cases hA : q2 < 0 ∨ s1 < q2
    · have HI := Lib.hid (HYes.out (by rw [hEq.out]; exact hA))
      rw [hEq.out] at HI
      clear HYes HNo hEq
      have hA' : q2 < 0 ∨ (¬ q2 < 0 ∧ s1 < q2) := by omega
      clear hA
      rcases hA' with hA | ⟨hA, hA2⟩
      all_goals
        gi_wp2
        refine Free.wpIn_region 8 #[0, 0, 3, 0, 15, 31, 0, 127] (by kernel_rfl) (by kernel_rfl) (by rintro ⟨_, _, h⟩; exact h) ?_
        simp only [List.take_succ_cons, List.take_zero]
        iterate 6
          refine Free.E.q (by rfl) ?_
          apply Exists.intro
          refine ⟨fun u w' hc hb => ?_, ?_⟩
          go_simp
          (try go_ints); (try simp only [Ob.ite_imx, Ob.ite_imn]); first | exact rfl | (go_simp; exact rfl) | ((go_at_call 82; with_reducible exact HBk'.out _ (HS.out.below (B := W.heap.size) hb (by omega)) (by have := hb.size; omega))) | ((go_at_call 76; exact vectorOf_any _ _ _ _)) | ((go_at_call 87; with_reducible exact HSk'.out _)) | (simp only [↓IntWalk.iteOmega]; (try go_simp); exact rfl)
          simp only [Act.put, List.setIfInBounds_toArray, List.set_cons_zero, List.set_cons_succ, List.nil_append, List.cons_append]
        refine Free.E.new (z := #[.int .i64 0, .int .i64 0]) (by rfl) rfl (by kernel_rfl) ?_
        simp only [Act.put, List.setIfInBounds_toArray, List.set_cons_zero, List.set_cons_succ, List.nil_append, List.cons_append]
        refine Free.E.init (k := 6) (by rfl) (by rfl) rfl rfl (by rfl) (by decide) (by rfl) (fun _ => rfl) (fun _ => rfl) (by kernel_rfl) rfl rfl (by rfl) ?_
        simp only [List.nil_append, List.cons_append]
        refine Free.E.nil (fun u w3 S hF => ?_)
        have hb3 := hF.below
        obtain ⟨b3_6, hu3_6, hlo3_6, hhi3_6, -, hk3_6⟩ := hF.allocs 6 _ _ rfl
        simp only [Free.final, List.findSome?, reduceIte, Option.getD_some, Option.getD_none, Nat.reduceEqDiff, Value.cells] at hk3_6
        clear hF
        have hc3 := (Free.cells_of hb3).1
        have hf3 := (Free.cells_of hb3).2
        have hz3 := hb3.size
        simp only [hu3_6]
        have hcb3_6 := Free.cell_of_blk hk3_6
        have hfb3_6 := Free.frozen_of_blk hk3_6
        clear hu3_6 hk3_6
        try simp only [World.size_alloc, World.size_setCell, World.size_drew] at hz3 hlo3_6
        (try (have : w.heap.size < w3.heap.size := (by omega)))
        (try (have : w.heap.size < w3.heap.size + 1 := (by omega)))
        (try (have : w.heap.size < w3.heap.size + 1 + 1 := (by omega)))
        (try (have : w.heap.size + 1 < w3.heap.size := (by omega)))
        (try (have : w.heap.size + 1 < w3.heap.size + 1 := (by omega)))
        (try (have : w.heap.size + 1 < w3.heap.size + 1 + 1 := (by omega)))
        (try (have : w.heap.size + 1 + 1 < w3.heap.size := (by omega)))
        (try (have : w.heap.size + 1 + 1 < w3.heap.size + 1 := (by omega)))
        (try (have : w.heap.size + 1 + 1 < w3.heap.size + 1 + 1 := (by omega)))
        (try (have : w.heap.size + 1 + 1 + 1 < w3.heap.size := (by omega)))
        (try (have : w.heap.size + 1 + 1 + 1 < w3.heap.size + 1 := (by omega)))
        (try (have : w.heap.size + 1 + 1 + 1 < w3.heap.size + 1 + 1 := (by omega)))
        (try (have : w1.heap.size < w3.heap.size := (by omega)))
        (try (have : w1.heap.size < w3.heap.size + 1 := (by omega)))
        (try (have : w1.heap.size < w3.heap.size + 1 + 1 := (by omega)))
        (try (have : w1.heap.size + 1 < w3.heap.size := (by omega)))
        (try (have : w1.heap.size + 1 < w3.heap.size + 1 := (by omega)))
        (try (have : w1.heap.size + 1 < w3.heap.size + 1 + 1 := (by omega)))
        (try (have : w1.heap.size + 1 + 1 < w3.heap.size := (by omega)))
        (try (have : w1.heap.size + 1 + 1 < w3.heap.size + 1 := (by omega)))
        (try (have : w1.heap.size + 1 + 1 < w3.heap.size + 1 + 1 := (by omega)))
        (try (have : w1.heap.size + 1 + 1 + 1 < w3.heap.size := (by omega)))
        (try (have : w1.heap.size + 1 + 1 + 1 < w3.heap.size + 1 := (by omega)))
        (try (have : w1.heap.size + 1 + 1 + 1 < w3.heap.size + 1 + 1 := (by omega)))
        (try (have : w2.heap.size < w3.heap.size := (by omega)))
        (try (have : w2.heap.size < w3.heap.size + 1 := (by omega)))
        (try (have : w2.heap.size < w3.heap.size + 1 + 1 := (by omega)))
        (try (have : w2.heap.size + 1 < w3.heap.size := (by omega)))
        (try (have : w2.heap.size + 1 < w3.heap.size + 1 := (by omega)))
        (try (have : w2.heap.size + 1 < w3.heap.size + 1 + 1 := (by omega)))
        (try (have : w2.heap.size + 1 + 1 < w3.heap.size := (by omega)))
        (try (have : w2.heap.size + 1 + 1 < w3.heap.size + 1 := (by omega)))
        (try (have : w2.heap.size + 1 + 1 < w3.heap.size + 1 + 1 := (by omega)))
        (try (have : w2.heap.size + 1 + 1 + 1 < w3.heap.size := (by omega)))
        (try (have : w2.heap.size + 1 + 1 + 1 < w3.heap.size + 1 := (by omega)))
        (try (have : w2.heap.size + 1 + 1 + 1 < w3.heap.size + 1 + 1 := (by omega)))
        (try (have : W.heap.size < w3.heap.size := (by omega)))
        (try (have : W.heap.size < w3.heap.size + 1 := (by omega)))
        (try (have : W.heap.size < w3.heap.size + 1 + 1 := (by omega)))
        (try (have : W.heap.size + 1 < w3.heap.size := (by omega)))
        (try (have : W.heap.size + 1 < w3.heap.size + 1 := (by omega)))
        (try (have : W.heap.size + 1 < w3.heap.size + 1 + 1 := (by omega)))
        (try (have : W.heap.size + 1 + 1 < w3.heap.size := (by omega)))
        (try (have : W.heap.size + 1 + 1 < w3.heap.size + 1 := (by omega)))
        (try (have : W.heap.size + 1 + 1 < w3.heap.size + 1 + 1 := (by omega)))
        (try (have : W.heap.size + 1 + 1 + 1 < w3.heap.size := (by omega)))
        (try (have : W.heap.size + 1 + 1 + 1 < w3.heap.size + 1 := (by omega)))
        (try (have : W.heap.size + 1 + 1 + 1 < w3.heap.size + 1 + 1 := (by omega)))
        simp only [List.drop_succ_cons, List.drop_zero, List.drop_nil]
        go_wp2
        gi_wp2
        have n1 : w2.heap.size + 1 ≠ b3_6 := by omega
        have n2 : w2.heap.size + 1 + 1 ≠ b3_6 := by omega
        have n3 : b3_6 ≠ w2.heap.size + 1 := by omega
        have n4 : b3_6 ≠ w2.heap.size + 1 + 1 := by omega
        have n5 := c9
        have n6 := c10
        refine wpIn_region_any (by kernel_rfl) (Free.any_in (by kernel_rfl) (by rintro ⟨_, _, h⟩; exact h) _ _ _ _ ?_)
        try (change wpAny _ _ _ _ _ _ _ (World.drew _))
        refine wpAny_take (i := 0) (v := ?_) rfl (by kernel_rfl) (by kernel_rfl) (by kernel_rfl) (fun _ _ _ h => h) (Or.inl ⟨by rfl, ?_⟩) ?_
        rotate_left
        · intro w; first | (go_simp; done) | (go_simp; with_reducible rfl)
        refine wpAny_take (i := 1) (v := ?_) rfl (by kernel_rfl) (by kernel_rfl) (by kernel_rfl) (fun _ _ _ h => h) (Or.inl ⟨by rfl, ?_⟩) ?_
        rotate_left
        · intro w; first | (go_simp; done) | (go_simp; with_reducible rfl)
        refine wpAny_ready (rs := [2, 3]) (by kernel_rfl) (by simp) ?_
        refine AllReady.cons rfl (fun K hK => ?_) ?_
        · go_simp
          refine hK _ _ ?_
          clear hK K
          refine wpAny_ready (rs := [3]) (by kernel_rfl) (by simp) ?_
          refine AllReady.cons rfl (fun K hK => ?_) ?_
          · go_simp
            refine hK _ _ ?_
            clear hK K
            refine wpAny_ready (rs := [4]) (by kernel_rfl) (by simp) ?_
            refine AllReady.cons rfl (fun K hK => ?_) ?_
            · go_simp
              refine hK _ _ ?_
              clear hK K
              refine wpAny_done (by kernel_rfl) ?_ _
              go_simp
              gi_wp2
              exact ⟨by repeat' first | with_reducible exact Free.Keeps.refl _ _ _ | with_reducible assumption | with_reducible refine Free.Keeps.setCell ?_ (by first | omega | (simp; done) | (simp; omega)) _ | with_reducible refine Free.Keeps.alloc ?_ _ | with_reducible refine Free.Keeps.drew ?_ | with_reducible refine Free.Keeps.grow ?_ (by assumption), by repeat' first | with_reducible exact Below.refl _ _ | with_reducible assumption | with_reducible refine Free.Grow.alloc ?_ _ | with_reducible refine Free.Grow.setCell ?_ (by first | omega | (simp; done) | (simp; omega)) _ | with_reducible refine Free.Grow.drew ?_ | with_reducible refine Free.Grow.trans ?_ (by assumption), by repeat' first | with_reducible assumption | with_reducible exact Free.blk_new _ (by first | rfl | (simp; done)) | with_reducible refine Free.blk_alloc_old ?_ | with_reducible refine Free.blk_drew ?_ | with_reducible refine Free.blk_setCell_far ?_ (by first | omega | (simp; done) | (simp; omega)) _ | with_reducible apply Free.blk_setCell_to | (show Array.setIfInBounds _ _ _ = _; first | exact rfl | (simp; done)) | with_reducible refine Free.blk_below ?_ (by assumption), by repeat' first | with_reducible assumption | with_reducible exact Free.blk_new _ (by first | rfl | (simp; done)) | with_reducible refine Free.blk_alloc_old ?_ | with_reducible refine Free.blk_drew ?_ | with_reducible refine Free.blk_setCell_far ?_ (by first | omega | (simp; done) | (simp; omega)) _ | with_reducible apply Free.blk_setCell_to | (show Array.setIfInBounds _ _ _ = _; first | exact rfl | (simp; done)) | with_reducible refine Free.blk_below ?_ (by assumption), by repeat' first | with_reducible assumption | with_reducible exact Free.blk_new _ (by first | rfl | (simp; done)) | with_reducible refine Free.blk_alloc_old ?_ | with_reducible refine Free.blk_drew ?_ | with_reducible refine Free.blk_setCell_far ?_ (by first | omega | (simp; done) | (simp; omega)) _ | with_reducible apply Free.blk_setCell_to | (show Array.setIfInBounds _ _ _ = _; first | exact rfl | (simp; done)) | with_reducible refine Free.blk_below ?_ (by assumption), by simp only [HI.out]; repeat' first | with_reducible assumption | with_reducible exact Free.blk_new _ (by first | rfl | (simp; done)) | with_reducible refine Free.blk_alloc_old ?_ | with_reducible refine Free.blk_drew ?_ | with_reducible refine Free.blk_setCell_far ?_ (by first | omega | (simp; done) | (simp; omega)) _ | with_reducible apply Free.blk_setCell_to | (show Array.setIfInBounds _ _ _ = _; first | exact rfl | (simp; done)) | with_reducible refine Free.blk_below ?_ (by assumption), by simp only [HI.out]; repeat' first | with_reducible assumption | with_reducible exact Free.blk_new _ (by first | rfl | (simp; done)) | with_reducible refine Free.blk_alloc_old ?_ | with_reducible refine Free.blk_drew ?_ | with_reducible refine Free.blk_setCell_far ?_ (by first | omega | (simp; done) | (simp; omega)) _ | with_reducible apply Free.blk_setCell_to | (show Array.setIfInBounds _ _ _ = _; first | exact rfl | (simp; done)) | with_reducible refine Free.blk_below ?_ (by assumption)⟩
            exact AllReady.nil
          exact AllReady.nil
        refine AllReady.cons rfl (fun K hK => ?_) ?_
        · go_simp
          refine hK _ _ ?_
          clear hK K
          refine wpAny_ready (rs := [2]) (by kernel_rfl) (by simp) ?_
          refine AllReady.cons rfl (fun K hK => ?_) ?_
          · go_simp
            refine hK _ _ ?_
            clear hK K
            refine wpAny_ready (rs := [4]) (by kernel_rfl) (by simp) ?_
            refine AllReady.cons rfl (fun K hK => ?_) ?_
            · go_simp
              refine hK _ _ ?_
              clear hK K
              refine wpAny_done (by kernel_rfl) ?_ _
              go_simp
              gi_wp2
              exact ⟨by repeat' first | with_reducible exact Free.Keeps.refl _ _ _ | with_reducible assumption | with_reducible refine Free.Keeps.setCell ?_ (by first | omega | (simp; done) | (simp; omega)) _ | with_reducible refine Free.Keeps.alloc ?_ _ | with_reducible refine Free.Keeps.drew ?_ | with_reducible refine Free.Keeps.grow ?_ (by assumption), by repeat' first | with_reducible exact Below.refl _ _ | with_reducible assumption | with_reducible refine Free.Grow.alloc ?_ _ | with_reducible refine Free.Grow.setCell ?_ (by first | omega | (simp; done) | (simp; omega)) _ | with_reducible refine Free.Grow.drew ?_ | with_reducible refine Free.Grow.trans ?_ (by assumption), by repeat' first | with_reducible assumption | with_reducible exact Free.blk_new _ (by first | rfl | (simp; done)) | with_reducible refine Free.blk_alloc_old ?_ | with_reducible refine Free.blk_drew ?_ | with_reducible refine Free.blk_setCell_far ?_ (by first | omega | (simp; done) | (simp; omega)) _ | with_reducible apply Free.blk_setCell_to | (show Array.setIfInBounds _ _ _ = _; first | exact rfl | (simp; done)) | with_reducible refine Free.blk_below ?_ (by assumption), by repeat' first | with_reducible assumption | with_reducible exact Free.blk_new _ (by first | rfl | (simp; done)) | with_reducible refine Free.blk_alloc_old ?_ | with_reducible refine Free.blk_drew ?_ | with_reducible refine Free.blk_setCell_far ?_ (by first | omega | (simp; done) | (simp; omega)) _ | with_reducible apply Free.blk_setCell_to | (show Array.setIfInBounds _ _ _ = _; first | exact rfl | (simp; done)) | with_reducible refine Free.blk_below ?_ (by assumption), by repeat' first | with_reducible assumption | with_reducible exact Free.blk_new _ (by first | rfl | (simp; done)) | with_reducible refine Free.blk_alloc_old ?_ | with_reducible refine Free.blk_drew ?_ | with_reducible refine Free.blk_setCell_far ?_ (by first | omega | (simp; done) | (simp; omega)) _ | with_reducible apply Free.blk_setCell_to | (show Array.setIfInBounds _ _ _ = _; first | exact rfl | (simp; done)) | with_reducible refine Free.blk_below ?_ (by assumption), by simp only [HI.out]; repeat' first | with_reducible assumption | with_reducible exact Free.blk_new _ (by first | rfl | (simp; done)) | with_reducible refine Free.blk_alloc_old ?_ | with_reducible refine Free.blk_drew ?_ | with_reducible refine Free.blk_setCell_far ?_ (by first | omega | (simp; done) | (simp; omega)) _ | with_reducible apply Free.blk_setCell_to | (show Array.setIfInBounds _ _ _ = _; first | exact rfl | (simp; done)) | with_reducible refine Free.blk_below ?_ (by assumption), by simp only [HI.out]; repeat' first | with_reducible assumption | with_reducible exact Free.blk_new _ (by first | rfl | (simp; done)) | with_reducible refine Free.blk_alloc_old ?_ | with_reducible refine Free.blk_drew ?_ | with_reducible refine Free.blk_setCell_far ?_ (by first | omega | (simp; done) | (simp; omega)) _ | with_reducible apply Free.blk_setCell_to | (show Array.setIfInBounds _ _ _ = _; first | exact rfl | (simp; done)) | with_reducible refine Free.blk_below ?_ (by assumption)⟩
            exact AllReady.nil
          exact AllReady.nil
        exact AllReady.nil
    · have HI := Lib.hid (HNo.out (by rw [hEq.out]; exact hA))
      have HA1 := Lib.hid (show ¬ q2 < 0 from fun h => hA (.inl h))
      have HA2 := Lib.hid (show ¬ s1 < q2 from fun h => hA (.inr h))
      clear HYes HNo hEq hA
      gi_wp2
      refine Free.wpIn_region 8 #[0, 0, 3, 0, 15, 31, 0, 127] (by kernel_rfl) (by kernel_rfl) (by rintro ⟨_, _, h⟩; exact h) ?_
      simp only [List.take_succ_cons, List.take_zero]
      iterate 6
        refine Free.E.q (by rfl) ?_
        apply Exists.intro
        refine ⟨fun u w' hc hb => ?_, ?_⟩
        go_simp
        (try go_ints); (try simp only [Ob.ite_imx, Ob.ite_imn]); first | exact rfl | (go_simp; exact rfl) | ((go_at_call 82; with_reducible exact HBk'.out _ (HS.out.below (B := W.heap.size) hb (by omega)) (by have := hb.size; omega))) | ((go_at_call 76; exact vectorOf_any _ _ _ _)) | ((go_at_call 87; with_reducible exact HSk'.out _)) | (simp only [↓IntWalk.iteOmega]; (try go_simp); exact rfl)
        simp only [Act.put, List.setIfInBounds_toArray, List.set_cons_zero, List.set_cons_succ, List.nil_append, List.cons_append]
      refine Free.E.new (z := #[.int .i64 0, .int .i64 0]) (by rfl) rfl (by kernel_rfl) ?_
      simp only [Act.put, List.setIfInBounds_toArray, List.set_cons_zero, List.set_cons_succ, List.nil_append, List.cons_append]
      refine Free.E.init (k := 6) (by rfl) (by rfl) rfl rfl (by rfl) (by decide) (by rfl) (fun _ => rfl) (fun _ => rfl) (by kernel_rfl) rfl rfl (by rfl) ?_
      simp only [List.nil_append, List.cons_append]
      refine Free.E.nil (fun u w3 S hF => ?_)
      have hb3 := hF.below
      obtain ⟨b3_6, hu3_6, hlo3_6, hhi3_6, -, hk3_6⟩ := hF.allocs 6 _ _ rfl
      simp only [Free.final, List.findSome?, reduceIte, Option.getD_some, Option.getD_none, Nat.reduceEqDiff, Value.cells] at hk3_6
      clear hF
      have hc3 := (Free.cells_of hb3).1
      have hf3 := (Free.cells_of hb3).2
      have hz3 := hb3.size
      simp only [hu3_6]
      have hcb3_6 := Free.cell_of_blk hk3_6
      have hfb3_6 := Free.frozen_of_blk hk3_6
      clear hu3_6 hk3_6
      try simp only [World.size_alloc, World.size_setCell, World.size_drew] at hz3 hlo3_6
      (try (have : w.heap.size < w3.heap.size := (by omega)))
      (try (have : w.heap.size < w3.heap.size + 1 := (by omega)))
      (try (have : w.heap.size < w3.heap.size + 1 + 1 := (by omega)))
      (try (have : w.heap.size + 1 < w3.heap.size := (by omega)))
      (try (have : w.heap.size + 1 < w3.heap.size + 1 := (by omega)))
      (try (have : w.heap.size + 1 < w3.heap.size + 1 + 1 := (by omega)))
      (try (have : w.heap.size + 1 + 1 < w3.heap.size := (by omega)))
      (try (have : w.heap.size + 1 + 1 < w3.heap.size + 1 := (by omega)))
      (try (have : w.heap.size + 1 + 1 < w3.heap.size + 1 + 1 := (by omega)))
      (try (have : w.heap.size + 1 + 1 + 1 < w3.heap.size := (by omega)))
      (try (have : w.heap.size + 1 + 1 + 1 < w3.heap.size + 1 := (by omega)))
      (try (have : w.heap.size + 1 + 1 + 1 < w3.heap.size + 1 + 1 := (by omega)))
      (try (have : w1.heap.size < w3.heap.size := (by omega)))
      (try (have : w1.heap.size < w3.heap.size + 1 := (by omega)))
      (try (have : w1.heap.size < w3.heap.size + 1 + 1 := (by omega)))
      (try (have : w1.heap.size + 1 < w3.heap.size := (by omega)))
      (try (have : w1.heap.size + 1 < w3.heap.size + 1 := (by omega)))
      (try (have : w1.heap.size + 1 < w3.heap.size + 1 + 1 := (by omega)))
      (try (have : w1.heap.size + 1 + 1 < w3.heap.size := (by omega)))
      (try (have : w1.heap.size + 1 + 1 < w3.heap.size + 1 := (by omega)))
      (try (have : w1.heap.size + 1 + 1 < w3.heap.size + 1 + 1 := (by omega)))
      (try (have : w1.heap.size + 1 + 1 + 1 < w3.heap.size := (by omega)))
      (try (have : w1.heap.size + 1 + 1 + 1 < w3.heap.size + 1 := (by omega)))
      (try (have : w1.heap.size + 1 + 1 + 1 < w3.heap.size + 1 + 1 := (by omega)))
      (try (have : w2.heap.size < w3.heap.size := (by omega)))
      (try (have : w2.heap.size < w3.heap.size + 1 := (by omega)))
      (try (have : w2.heap.size < w3.heap.size + 1 + 1 := (by omega)))
      (try (have : w2.heap.size + 1 < w3.heap.size := (by omega)))
      (try (have : w2.heap.size + 1 < w3.heap.size + 1 := (by omega)))
      (try (have : w2.heap.size + 1 < w3.heap.size + 1 + 1 := (by omega)))
      (try (have : w2.heap.size + 1 + 1 < w3.heap.size := (by omega)))
      (try (have : w2.heap.size + 1 + 1 < w3.heap.size + 1 := (by omega)))
      (try (have : w2.heap.size + 1 + 1 < w3.heap.size + 1 + 1 := (by omega)))
      (try (have : w2.heap.size + 1 + 1 + 1 < w3.heap.size := (by omega)))
      (try (have : w2.heap.size + 1 + 1 + 1 < w3.heap.size + 1 := (by omega)))
      (try (have : w2.heap.size + 1 + 1 + 1 < w3.heap.size + 1 + 1 := (by omega)))
      (try (have : W.heap.size < w3.heap.size := (by omega)))
      (try (have : W.heap.size < w3.heap.size + 1 := (by omega)))
      (try (have : W.heap.size < w3.heap.size + 1 + 1 := (by omega)))
      (try (have : W.heap.size + 1 < w3.heap.size := (by omega)))
      (try (have : W.heap.size + 1 < w3.heap.size + 1 := (by omega)))
      (try (have : W.heap.size + 1 < w3.heap.size + 1 + 1 := (by omega)))
      (try (have : W.heap.size + 1 + 1 < w3.heap.size := (by omega)))
      (try (have : W.heap.size + 1 + 1 < w3.heap.size + 1 := (by omega)))
      (try (have : W.heap.size + 1 + 1 < w3.heap.size + 1 + 1 := (by omega)))
      (try (have : W.heap.size + 1 + 1 + 1 < w3.heap.size := (by omega)))
      (try (have : W.heap.size + 1 + 1 + 1 < w3.heap.size + 1 := (by omega)))
      (try (have : W.heap.size + 1 + 1 + 1 < w3.heap.size + 1 + 1 := (by omega)))
      simp only [List.drop_succ_cons, List.drop_zero, List.drop_nil]
      go_wp2
      have hA1 := HA1.out
      have hA2 := HA2.out
      gi_wp2
      refine ⟨by repeat' first | with_reducible exact Free.Keeps.refl _ _ _ | with_reducible assumption | with_reducible refine Free.Keeps.setCell ?_ (by first | omega | (simp; done) | (simp; omega)) _ | with_reducible refine Free.Keeps.alloc ?_ _ | with_reducible refine Free.Keeps.drew ?_ | with_reducible refine Free.Keeps.grow ?_ (by assumption), by repeat' first | with_reducible exact Below.refl _ _ | with_reducible assumption | with_reducible refine Free.Grow.alloc ?_ _ | with_reducible refine Free.Grow.setCell ?_ (by first | omega | (simp; done) | (simp; omega)) _ | with_reducible refine Free.Grow.drew ?_ | with_reducible refine Free.Grow.trans ?_ (by assumption), by repeat' first | with_reducible assumption | with_reducible exact Free.blk_new _ (by first | rfl | (simp; done)) | with_reducible refine Free.blk_alloc_old ?_ | with_reducible refine Free.blk_drew ?_ | with_reducible refine Free.blk_setCell_far ?_ (by first | omega | (simp; done) | (simp; omega)) _ | with_reducible apply Free.blk_setCell_to | (show Array.setIfInBounds _ _ _ = _; first | exact rfl | (simp; done)) | with_reducible refine Free.blk_below ?_ (by assumption), by repeat' first | with_reducible assumption | with_reducible exact Free.blk_new _ (by first | rfl | (simp; done)) | with_reducible refine Free.blk_alloc_old ?_ | with_reducible refine Free.blk_drew ?_ | with_reducible refine Free.blk_setCell_far ?_ (by first | omega | (simp; done) | (simp; omega)) _ | with_reducible apply Free.blk_setCell_to | (show Array.setIfInBounds _ _ _ = _; first | exact rfl | (simp; done)) | with_reducible refine Free.blk_below ?_ (by assumption), by repeat' first | with_reducible assumption | with_reducible exact Free.blk_new _ (by first | rfl | (simp; done)) | with_reducible refine Free.blk_alloc_old ?_ | with_reducible refine Free.blk_drew ?_ | with_reducible refine Free.blk_setCell_far ?_ (by first | omega | (simp; done) | (simp; omega)) _ | with_reducible apply Free.blk_setCell_to | (show Array.setIfInBounds _ _ _ = _; first | exact rfl | (simp; done)) | with_reducible refine Free.blk_below ?_ (by assumption), by simp only [HI.out]; repeat' first | with_reducible assumption | with_reducible exact Free.blk_new _ (by first | rfl | (simp; done)) | with_reducible refine Free.blk_alloc_old ?_ | with_reducible refine Free.blk_drew ?_ | with_reducible refine Free.blk_setCell_far ?_ (by first | omega | (simp; done) | (simp; omega)) _ | with_reducible apply Free.blk_setCell_to | (show Array.setIfInBounds _ _ _ = _; first | exact rfl | (simp; done)) | with_reducible refine Free.blk_below ?_ (by assumption), by simp only [HI.out]; repeat' first | with_reducible assumption | with_reducible exact Free.blk_new _ (by first | rfl | (simp; done)) | with_reducible refine Free.blk_alloc_old ?_ | with_reducible refine Free.blk_drew ?_ | with_reducible refine Free.blk_setCell_far ?_ (by first | omega | (simp; done) | (simp; omega)) _ | with_reducible apply Free.blk_setCell_to | (show Array.setIfInBounds _ _ _ = _; first | exact rfl | (simp; done)) | with_reducible refine Free.blk_below ?_ (by assumption)⟩
  case done =>
    rintro D W hD ⟨hBW, k7, k3, k4, k9, k10⟩ hkD
    have c7 := Free.cell_of_blk k7
    have c3 := Free.cell_of_blk k3
    have c9 := Free.cell_of_blk k9
    have c10 := Free.cell_of_blk k10
    have l7 := Free.lt_of_blk k7
    have l3 := Free.lt_of_blk k3
    have l4 := Free.lt_of_blk k4
    have l9 := Free.lt_of_blk k9
    have l10 := Free.lt_of_blk k10
    have lD := Free.lt_of_blk hkD
    have hWs := hBW.size
    simp only [World.size_alloc] at hD
    generalize nearTo f (frstT l) N = q at *
    obtain ⟨q1, q2⟩ := q
    simp only at HR c9 c10 k9 k10
    go_wp2
    refine Free.wp_each (d := 14) (gf := 88) (fb := #[obV nm bd (some ⟨b, off, none⟩) l.length cap]) (v := fun k => .int .i64 (frstT l + k)) (N := N) (n₀ := w.heap.size) rfl (enters_of Try.func88 (by kernel_rfl) rfl)
      (HEA.out _ _ (by simp; omega) (by simp; omega) (HM.out.below (B := w.heap.size) (by repeat' first | with_reducible exact Below.refl _ _ | with_reducible assumption | with_reducible refine Free.Grow.alloc ?_ _ | with_reducible refine Free.Grow.setCell ?_ (by first | omega | (simp; done) | (simp; omega)) _ | with_reducible refine Free.Grow.drew ?_ | with_reducible refine Free.Grow.trans ?_ (by assumption)) hbw)) (by simp; omega)
      (fun k V => Below w.heap.size w V ∧ V.heap[w1.heap.size]? = some (.cells #[.string nm, .int .i64 bd, .slice (some ⟨b, off, none⟩) l.length cap] 118 (0, 0)) ∧ V.heap[w.heap.size + 1]? = some (.cells #[.int .i64 x, .int .i64 y, .int .i64 z] 26 (0, 0)) ∧
        V.heap[w.heap.size + 1 + 1]? = some (.cells #[.int .i64 0, .int .i64 0] 44 (0, 0)) ∧
        V.heap[w2.heap.size + 1]? = some (.cells #[.int .i64 q1] 3 (0, 0)) ∧ V.heap[w2.heap.size + 1 + 1]? = some (.cells #[.int .i64 q2] 3 (0, 0)) ∧
        V.heap[W.heap.size]? = some (.cells #[.int .i64 (rgTo g q2 (frstT l) k).1, .int .i64 (rgTo g q2 (frstT l) k).2] 44 (0, 0)) ∧ V.heap[D]? = some (.deferred (some [])))
      (fun _ _ => False) (Free.Bides.and (Free.Bides.below (Nat.le_refl _) (by simp; omega)) (Free.Bides.and (Free.Bides.block (fun _ => _) (by simp; omega)) (Free.Bides.and (Free.Bides.block (fun _ => _) (by simp; omega)) (Free.Bides.and (Free.Bides.block (fun _ => _) (by simp; omega)) (Free.Bides.and (Free.Bides.block (fun _ => _) (by simp; omega)) (Free.Bides.and (Free.Bides.block (fun _ => _) (by simp; omega)) (Free.Bides.and (Free.Bides.block (fun k => .cells #[.int .i64 (rgTo g q2 (frstT l) k).1, .int .i64 (rgTo g q2 (frstT l) k).2] 44 (0, 0)) (by simp)) (Free.Bides.block (fun _ => _) (by simp; omega)))))))))
      Free.Bides.none ?h0' ?assign' ?body' ?done' (fun _ _ _ _ _ h _ => h.elim)
    case h0' => exact ⟨by repeat' first | with_reducible exact Below.refl _ _ | with_reducible assumption | with_reducible refine Free.Grow.alloc ?_ _ | with_reducible refine Free.Grow.setCell ?_ (by first | omega | (simp; done) | (simp; omega)) _ | with_reducible refine Free.Grow.drew ?_ | with_reducible refine Free.Grow.trans ?_ (by assumption), by repeat' first | with_reducible assumption | with_reducible exact Free.blk_new _ (by first | rfl | (simp; done)) | with_reducible refine Free.blk_alloc_old ?_ | with_reducible refine Free.blk_drew ?_ | with_reducible refine Free.blk_setCell_far ?_ (by first | omega | (simp; done) | (simp; omega)) _ | with_reducible apply Free.blk_setCell_to | (show Array.setIfInBounds _ _ _ = _; first | exact rfl | (simp; done)) | with_reducible refine Free.blk_below ?_ (by assumption), by repeat' first | with_reducible assumption | with_reducible exact Free.blk_new _ (by first | rfl | (simp; done)) | with_reducible refine Free.blk_alloc_old ?_ | with_reducible refine Free.blk_drew ?_ | with_reducible refine Free.blk_setCell_far ?_ (by first | omega | (simp; done) | (simp; omega)) _ | with_reducible apply Free.blk_setCell_to | (show Array.setIfInBounds _ _ _ = _; first | exact rfl | (simp; done)) | with_reducible refine Free.blk_below ?_ (by assumption), by repeat' first | with_reducible assumption | with_reducible exact Free.blk_new _ (by first | rfl | (simp; done)) | with_reducible refine Free.blk_alloc_old ?_ | with_reducible refine Free.blk_drew ?_ | with_reducible refine Free.blk_setCell_far ?_ (by first | omega | (simp; done) | (simp; omega)) _ | with_reducible apply Free.blk_setCell_to | (show Array.setIfInBounds _ _ _ = _; first | exact rfl | (simp; done)) | with_reducible refine Free.blk_below ?_ (by assumption), by repeat' first | with_reducible assumption | with_reducible exact Free.blk_new _ (by first | rfl | (simp; done)) | with_reducible refine Free.blk_alloc_old ?_ | with_reducible refine Free.blk_drew ?_ | with_reducible refine Free.blk_setCell_far ?_ (by first | omega | (simp; done) | (simp; omega)) _ | with_reducible apply Free.blk_setCell_to | (show Array.setIfInBounds _ _ _ = _; first | exact rfl | (simp; done)) | with_reducible refine Free.blk_below ?_ (by assumption), by repeat' first | with_reducible assumption | with_reducible exact Free.blk_new _ (by first | rfl | (simp; done)) | with_reducible refine Free.blk_alloc_old ?_ | with_reducible refine Free.blk_drew ?_ | with_reducible refine Free.blk_setCell_far ?_ (by first | omega | (simp; done) | (simp; omega)) _ | with_reducible apply Free.blk_setCell_to | (show Array.setIfInBounds _ _ _ = _; first | exact rfl | (simp; done)) | with_reducible refine Free.blk_below ?_ (by assumption), by simp only [rgTo_zero]; repeat' first | with_reducible assumption | with_reducible exact Free.blk_new _ (by first | rfl | (simp; done)) | with_reducible refine Free.blk_alloc_old ?_ | with_reducible refine Free.blk_drew ?_ | with_reducible refine Free.blk_setCell_far ?_ (by first | omega | (simp; done) | (simp; omega)) _ | with_reducible apply Free.blk_setCell_to | (show Array.setIfInBounds _ _ _ = _; first | exact rfl | (simp; done)) | with_reducible refine Free.blk_below ?_ (by assumption), by repeat' first | with_reducible assumption | with_reducible exact Free.blk_new _ (by first | rfl | (simp; done)) | with_reducible refine Free.blk_alloc_old ?_ | with_reducible refine Free.blk_drew ?_ | with_reducible refine Free.blk_setCell_far ?_ (by first | omega | (simp; done) | (simp; omega)) _ | with_reducible apply Free.blk_setCell_to | (show Array.setIfInBounds _ _ _ = _; first | exact rfl | (simp; done)) | with_reducible refine Free.blk_below ?_ (by assumption)⟩
    case assign' =>
      intro lp k W K hK
      simp only [Free.setTo, List.setIfInBounds_toArray, List.set_cons_zero, List.set_cons_succ] at hK ⊢
      gi_wp2
      exact hK
    case body' =>
      rintro lp k V hWz ⟨hBV, k7, k3, k4, k9, k10, k13, kD⟩ hk
      have c7 := Free.cell_of_blk k7
      have c3 := Free.cell_of_blk k3
      have c9 := Free.cell_of_blk k9
      have c10 := Free.cell_of_blk k10
      have c13 := Free.cell_of_blk k13
      have l7 := Free.lt_of_blk k7
      have l3 := Free.lt_of_blk k3
      have l4 := Free.lt_of_blk k4
      have l9 := Free.lt_of_blk k9
      have l10 := Free.lt_of_blk k10
      have l13 := Free.lt_of_blk k13
      have f13 := Free.frozen_of_blk k13
      have hVs := hBV.size
      have HBk' := Lib.hid (HBk.out k hk)
      have HSk' := Lib.hid (HSk.out k hk)
      have HNew := Lib.hid (rgTo_new (g := g) (m := q2) (a := frstT l) (k := k))
      have HMore := Lib.hid (rgTo_more (g := g) (m := q2) (a := frstT l) (k := k))
      have HNo := Lib.hid (rgTo_no (g := g) (m := q2) (a := frstT l) (k := k))
      have hEq := Lib.hid (HLs.out (frstT l + k))
      have HS := Lib.hid (HM.out.below (B := w.heap.size) hBV hbw)
      simp only [World.size_alloc] at hWz
      simp only [Free.setTo, List.setIfInBounds_toArray, List.set_cons_zero, List.set_cons_succ]
      generalize (rgTo g q2 (frstT l) k) = r at *
      obtain ⟨r1, r2⟩ := r
      simp only at c13 HNew HMore HNo
      generalize bx bd l (frstT l + k) = p at *
      generalize sqHi p x y z = s1 at *
      generalize sqLo p x y z = s0 at *
      by_cases hm : s0 ≤ q2
      · by_cases hr : r1 < 0
        · have HI := Lib.hid (HNew.out (by rw [hEq.out]; exact hm) hr)
          have HM1 := Lib.hid (show ¬ s0 > q2 by omega)
          have HR1 := Lib.hid hr
          clear HNew HMore HNo hEq hm hr
          gi_wp2
          refine Free.wpIn_region 9 #[0, 0, 3, 0, 15, 31, 63, 0, 255] (by kernel_rfl) (by kernel_rfl) (by rintro ⟨_, _, h⟩; exact h) ?_
          simp only [List.take_succ_cons, List.take_zero]
          iterate 9
            refine Free.E.q (by rfl) ?_
            apply Exists.intro
            refine ⟨fun u w' hc hb => ?_, ?_⟩
            go_simp
            (try go_ints); (try simp only [Ob.ite_imx, Ob.ite_imn]); first | exact rfl | (go_simp; exact rfl) | ((go_at_call 82; with_reducible exact HBk'.out _ (HS.out.below (B := V.heap.size) hb (by omega)) (by have := hb.size; omega))) | ((go_at_call 76; exact vectorOf_any _ _ _ _)) | ((go_at_call 87; with_reducible exact HSk'.out _)) | (simp only [↓IntWalk.iteOmega]; (try go_simp); exact rfl)
            simp only [Act.put, List.setIfInBounds_toArray, List.set_cons_zero, List.set_cons_succ, List.nil_append, List.cons_append]
          refine Free.E.nil (fun u w5 S hF => ?_)
          have hb5 := hF.below
          clear hF
          have hc5 := (Free.cells_of hb5).1
          have hf5 := (Free.cells_of hb5).2
          have hz5 := hb5.size
          try simp only [World.size_alloc, World.size_setCell, World.size_drew] at hz5
          (try (have : w.heap.size < w5.heap.size := (by omega)))
          (try (have : w.heap.size < w5.heap.size + 1 := (by omega)))
          (try (have : w.heap.size < w5.heap.size + 1 + 1 := (by omega)))
          (try (have : w.heap.size + 1 < w5.heap.size := (by omega)))
          (try (have : w.heap.size + 1 < w5.heap.size + 1 := (by omega)))
          (try (have : w.heap.size + 1 < w5.heap.size + 1 + 1 := (by omega)))
          (try (have : w.heap.size + 1 + 1 < w5.heap.size := (by omega)))
          (try (have : w.heap.size + 1 + 1 < w5.heap.size + 1 := (by omega)))
          (try (have : w.heap.size + 1 + 1 < w5.heap.size + 1 + 1 := (by omega)))
          (try (have : w.heap.size + 1 + 1 + 1 < w5.heap.size := (by omega)))
          (try (have : w.heap.size + 1 + 1 + 1 < w5.heap.size + 1 := (by omega)))
          (try (have : w.heap.size + 1 + 1 + 1 < w5.heap.size + 1 + 1 := (by omega)))
          (try (have : w1.heap.size < w5.heap.size := (by omega)))
          (try (have : w1.heap.size < w5.heap.size + 1 := (by omega)))
          (try (have : w1.heap.size < w5.heap.size + 1 + 1 := (by omega)))
          (try (have : w1.heap.size + 1 < w5.heap.size := (by omega)))
          (try (have : w1.heap.size + 1 < w5.heap.size + 1 := (by omega)))
          (try (have : w1.heap.size + 1 < w5.heap.size + 1 + 1 := (by omega)))
          (try (have : w1.heap.size + 1 + 1 < w5.heap.size := (by omega)))
          (try (have : w1.heap.size + 1 + 1 < w5.heap.size + 1 := (by omega)))
          (try (have : w1.heap.size + 1 + 1 < w5.heap.size + 1 + 1 := (by omega)))
          (try (have : w1.heap.size + 1 + 1 + 1 < w5.heap.size := (by omega)))
          (try (have : w1.heap.size + 1 + 1 + 1 < w5.heap.size + 1 := (by omega)))
          (try (have : w1.heap.size + 1 + 1 + 1 < w5.heap.size + 1 + 1 := (by omega)))
          (try (have : w2.heap.size < w5.heap.size := (by omega)))
          (try (have : w2.heap.size < w5.heap.size + 1 := (by omega)))
          (try (have : w2.heap.size < w5.heap.size + 1 + 1 := (by omega)))
          (try (have : w2.heap.size + 1 < w5.heap.size := (by omega)))
          (try (have : w2.heap.size + 1 < w5.heap.size + 1 := (by omega)))
          (try (have : w2.heap.size + 1 < w5.heap.size + 1 + 1 := (by omega)))
          (try (have : w2.heap.size + 1 + 1 < w5.heap.size := (by omega)))
          (try (have : w2.heap.size + 1 + 1 < w5.heap.size + 1 := (by omega)))
          (try (have : w2.heap.size + 1 + 1 < w5.heap.size + 1 + 1 := (by omega)))
          (try (have : w2.heap.size + 1 + 1 + 1 < w5.heap.size := (by omega)))
          (try (have : w2.heap.size + 1 + 1 + 1 < w5.heap.size + 1 := (by omega)))
          (try (have : w2.heap.size + 1 + 1 + 1 < w5.heap.size + 1 + 1 := (by omega)))
          (try (have : W.heap.size < w5.heap.size := (by omega)))
          (try (have : W.heap.size < w5.heap.size + 1 := (by omega)))
          (try (have : W.heap.size < w5.heap.size + 1 + 1 := (by omega)))
          (try (have : W.heap.size + 1 < w5.heap.size := (by omega)))
          (try (have : W.heap.size + 1 < w5.heap.size + 1 := (by omega)))
          (try (have : W.heap.size + 1 < w5.heap.size + 1 + 1 := (by omega)))
          (try (have : W.heap.size + 1 + 1 < w5.heap.size := (by omega)))
          (try (have : W.heap.size + 1 + 1 < w5.heap.size + 1 := (by omega)))
          (try (have : W.heap.size + 1 + 1 < w5.heap.size + 1 + 1 := (by omega)))
          (try (have : W.heap.size + 1 + 1 + 1 < w5.heap.size := (by omega)))
          (try (have : W.heap.size + 1 + 1 + 1 < w5.heap.size + 1 := (by omega)))
          (try (have : W.heap.size + 1 + 1 + 1 < w5.heap.size + 1 + 1 := (by omega)))
          (try (have : V.heap.size < w5.heap.size := (by omega)))
          (try (have : V.heap.size < w5.heap.size + 1 := (by omega)))
          (try (have : V.heap.size < w5.heap.size + 1 + 1 := (by omega)))
          (try (have : V.heap.size + 1 < w5.heap.size := (by omega)))
          (try (have : V.heap.size + 1 < w5.heap.size + 1 := (by omega)))
          (try (have : V.heap.size + 1 < w5.heap.size + 1 + 1 := (by omega)))
          (try (have : V.heap.size + 1 + 1 < w5.heap.size := (by omega)))
          (try (have : V.heap.size + 1 + 1 < w5.heap.size + 1 := (by omega)))
          (try (have : V.heap.size + 1 + 1 < w5.heap.size + 1 + 1 := (by omega)))
          (try (have : V.heap.size + 1 + 1 + 1 < w5.heap.size := (by omega)))
          (try (have : V.heap.size + 1 + 1 + 1 < w5.heap.size + 1 := (by omega)))
          (try (have : V.heap.size + 1 + 1 + 1 < w5.heap.size + 1 + 1 := (by omega)))
          simp only [List.drop_succ_cons, List.drop_zero, List.drop_nil]
          have hm := HM1.out
          have hr := HR1.out
          go_wp2
          gi_wp2
          refine ⟨by repeat' first | with_reducible exact Free.Keeps.refl _ _ _ | with_reducible assumption | with_reducible refine Free.Keeps.setCell ?_ (by first | omega | (simp; done) | (simp; omega)) _ | with_reducible refine Free.Keeps.alloc ?_ _ | with_reducible refine Free.Keeps.drew ?_ | with_reducible refine Free.Keeps.grow ?_ (by assumption), by repeat' first | with_reducible exact Below.refl _ _ | with_reducible assumption | with_reducible refine Free.Grow.alloc ?_ _ | with_reducible refine Free.Grow.setCell ?_ (by first | omega | (simp; done) | (simp; omega)) _ | with_reducible refine Free.Grow.drew ?_ | with_reducible refine Free.Grow.trans ?_ (by assumption), by repeat' first | with_reducible assumption | with_reducible exact Free.blk_new _ (by first | rfl | (simp; done)) | with_reducible refine Free.blk_alloc_old ?_ | with_reducible refine Free.blk_drew ?_ | with_reducible refine Free.blk_setCell_far ?_ (by first | omega | (simp; done) | (simp; omega)) _ | with_reducible apply Free.blk_setCell_to | (show Array.setIfInBounds _ _ _ = _; first | exact rfl | (simp; done)) | with_reducible refine Free.blk_below ?_ (by assumption), by repeat' first | with_reducible assumption | with_reducible exact Free.blk_new _ (by first | rfl | (simp; done)) | with_reducible refine Free.blk_alloc_old ?_ | with_reducible refine Free.blk_drew ?_ | with_reducible refine Free.blk_setCell_far ?_ (by first | omega | (simp; done) | (simp; omega)) _ | with_reducible apply Free.blk_setCell_to | (show Array.setIfInBounds _ _ _ = _; first | exact rfl | (simp; done)) | with_reducible refine Free.blk_below ?_ (by assumption), by repeat' first | with_reducible assumption | with_reducible exact Free.blk_new _ (by first | rfl | (simp; done)) | with_reducible refine Free.blk_alloc_old ?_ | with_reducible refine Free.blk_drew ?_ | with_reducible refine Free.blk_setCell_far ?_ (by first | omega | (simp; done) | (simp; omega)) _ | with_reducible apply Free.blk_setCell_to | (show Array.setIfInBounds _ _ _ = _; first | exact rfl | (simp; done)) | with_reducible refine Free.blk_below ?_ (by assumption), by repeat' first | with_reducible assumption | with_reducible exact Free.blk_new _ (by first | rfl | (simp; done)) | with_reducible refine Free.blk_alloc_old ?_ | with_reducible refine Free.blk_drew ?_ | with_reducible refine Free.blk_setCell_far ?_ (by first | omega | (simp; done) | (simp; omega)) _ | with_reducible apply Free.blk_setCell_to | (show Array.setIfInBounds _ _ _ = _; first | exact rfl | (simp; done)) | with_reducible refine Free.blk_below ?_ (by assumption), by repeat' first | with_reducible assumption | with_reducible exact Free.blk_new _ (by first | rfl | (simp; done)) | with_reducible refine Free.blk_alloc_old ?_ | with_reducible refine Free.blk_drew ?_ | with_reducible refine Free.blk_setCell_far ?_ (by first | omega | (simp; done) | (simp; omega)) _ | with_reducible apply Free.blk_setCell_to | (show Array.setIfInBounds _ _ _ = _; first | exact rfl | (simp; done)) | with_reducible refine Free.blk_below ?_ (by assumption), by simp only [HI.out]; repeat' first | with_reducible assumption | with_reducible exact Free.blk_new _ (by first | rfl | (simp; done)) | with_reducible refine Free.blk_alloc_old ?_ | with_reducible refine Free.blk_drew ?_ | with_reducible refine Free.blk_setCell_far ?_ (by first | omega | (simp; done) | (simp; omega)) _ | with_reducible apply Free.blk_setCell_to | (show Array.setIfInBounds _ _ _ = _; first | exact rfl | (simp; done)) | with_reducible refine Free.blk_below ?_ (by assumption), by repeat' first | with_reducible assumption | with_reducible exact Free.blk_new _ (by first | rfl | (simp; done)) | with_reducible refine Free.blk_alloc_old ?_ | with_reducible refine Free.blk_drew ?_ | with_reducible refine Free.blk_setCell_far ?_ (by first | omega | (simp; done) | (simp; omega)) _ | with_reducible apply Free.blk_setCell_to | (show Array.setIfInBounds _ _ _ = _; first | exact rfl | (simp; done)) | with_reducible refine Free.blk_below ?_ (by assumption)⟩
        · have HI := Lib.hid (HMore.out (by rw [hEq.out]; exact hm) hr)
          have HM1 := Lib.hid (show ¬ s0 > q2 by omega)
          have HR1 := Lib.hid hr
          clear HNew HMore HNo hEq hm hr
          gi_wp2
          refine Free.wpIn_region 9 #[0, 0, 3, 0, 15, 31, 63, 0, 255] (by kernel_rfl) (by kernel_rfl) (by rintro ⟨_, _, h⟩; exact h) ?_
          simp only [List.take_succ_cons, List.take_zero]
          iterate 9
            refine Free.E.q (by rfl) ?_
            apply Exists.intro
            refine ⟨fun u w' hc hb => ?_, ?_⟩
            go_simp
            (try go_ints); (try simp only [Ob.ite_imx, Ob.ite_imn]); first | exact rfl | (go_simp; exact rfl) | ((go_at_call 82; with_reducible exact HBk'.out _ (HS.out.below (B := V.heap.size) hb (by omega)) (by have := hb.size; omega))) | ((go_at_call 76; exact vectorOf_any _ _ _ _)) | ((go_at_call 87; with_reducible exact HSk'.out _)) | (simp only [↓IntWalk.iteOmega]; (try go_simp); exact rfl)
            simp only [Act.put, List.setIfInBounds_toArray, List.set_cons_zero, List.set_cons_succ, List.nil_append, List.cons_append]
          refine Free.E.nil (fun u w5 S hF => ?_)
          have hb5 := hF.below
          clear hF
          have hc5 := (Free.cells_of hb5).1
          have hf5 := (Free.cells_of hb5).2
          have hz5 := hb5.size
          try simp only [World.size_alloc, World.size_setCell, World.size_drew] at hz5
          (try (have : w.heap.size < w5.heap.size := (by omega)))
          (try (have : w.heap.size < w5.heap.size + 1 := (by omega)))
          (try (have : w.heap.size < w5.heap.size + 1 + 1 := (by omega)))
          (try (have : w.heap.size + 1 < w5.heap.size := (by omega)))
          (try (have : w.heap.size + 1 < w5.heap.size + 1 := (by omega)))
          (try (have : w.heap.size + 1 < w5.heap.size + 1 + 1 := (by omega)))
          (try (have : w.heap.size + 1 + 1 < w5.heap.size := (by omega)))
          (try (have : w.heap.size + 1 + 1 < w5.heap.size + 1 := (by omega)))
          (try (have : w.heap.size + 1 + 1 < w5.heap.size + 1 + 1 := (by omega)))
          (try (have : w.heap.size + 1 + 1 + 1 < w5.heap.size := (by omega)))
          (try (have : w.heap.size + 1 + 1 + 1 < w5.heap.size + 1 := (by omega)))
          (try (have : w.heap.size + 1 + 1 + 1 < w5.heap.size + 1 + 1 := (by omega)))
          (try (have : w1.heap.size < w5.heap.size := (by omega)))
          (try (have : w1.heap.size < w5.heap.size + 1 := (by omega)))
          (try (have : w1.heap.size < w5.heap.size + 1 + 1 := (by omega)))
          (try (have : w1.heap.size + 1 < w5.heap.size := (by omega)))
          (try (have : w1.heap.size + 1 < w5.heap.size + 1 := (by omega)))
          (try (have : w1.heap.size + 1 < w5.heap.size + 1 + 1 := (by omega)))
          (try (have : w1.heap.size + 1 + 1 < w5.heap.size := (by omega)))
          (try (have : w1.heap.size + 1 + 1 < w5.heap.size + 1 := (by omega)))
          (try (have : w1.heap.size + 1 + 1 < w5.heap.size + 1 + 1 := (by omega)))
          (try (have : w1.heap.size + 1 + 1 + 1 < w5.heap.size := (by omega)))
          (try (have : w1.heap.size + 1 + 1 + 1 < w5.heap.size + 1 := (by omega)))
          (try (have : w1.heap.size + 1 + 1 + 1 < w5.heap.size + 1 + 1 := (by omega)))
          (try (have : w2.heap.size < w5.heap.size := (by omega)))
          (try (have : w2.heap.size < w5.heap.size + 1 := (by omega)))
          (try (have : w2.heap.size < w5.heap.size + 1 + 1 := (by omega)))
          (try (have : w2.heap.size + 1 < w5.heap.size := (by omega)))
          (try (have : w2.heap.size + 1 < w5.heap.size + 1 := (by omega)))
          (try (have : w2.heap.size + 1 < w5.heap.size + 1 + 1 := (by omega)))
          (try (have : w2.heap.size + 1 + 1 < w5.heap.size := (by omega)))
          (try (have : w2.heap.size + 1 + 1 < w5.heap.size + 1 := (by omega)))
          (try (have : w2.heap.size + 1 + 1 < w5.heap.size + 1 + 1 := (by omega)))
          (try (have : w2.heap.size + 1 + 1 + 1 < w5.heap.size := (by omega)))
          (try (have : w2.heap.size + 1 + 1 + 1 < w5.heap.size + 1 := (by omega)))
          (try (have : w2.heap.size + 1 + 1 + 1 < w5.heap.size + 1 + 1 := (by omega)))
          (try (have : W.heap.size < w5.heap.size := (by omega)))
          (try (have : W.heap.size < w5.heap.size + 1 := (by omega)))
          (try (have : W.heap.size < w5.heap.size + 1 + 1 := (by omega)))
          (try (have : W.heap.size + 1 < w5.heap.size := (by omega)))
          (try (have : W.heap.size + 1 < w5.heap.size + 1 := (by omega)))
          (try (have : W.heap.size + 1 < w5.heap.size + 1 + 1 := (by omega)))
          (try (have : W.heap.size + 1 + 1 < w5.heap.size := (by omega)))
          (try (have : W.heap.size + 1 + 1 < w5.heap.size + 1 := (by omega)))
          (try (have : W.heap.size + 1 + 1 < w5.heap.size + 1 + 1 := (by omega)))
          (try (have : W.heap.size + 1 + 1 + 1 < w5.heap.size := (by omega)))
          (try (have : W.heap.size + 1 + 1 + 1 < w5.heap.size + 1 := (by omega)))
          (try (have : W.heap.size + 1 + 1 + 1 < w5.heap.size + 1 + 1 := (by omega)))
          (try (have : V.heap.size < w5.heap.size := (by omega)))
          (try (have : V.heap.size < w5.heap.size + 1 := (by omega)))
          (try (have : V.heap.size < w5.heap.size + 1 + 1 := (by omega)))
          (try (have : V.heap.size + 1 < w5.heap.size := (by omega)))
          (try (have : V.heap.size + 1 < w5.heap.size + 1 := (by omega)))
          (try (have : V.heap.size + 1 < w5.heap.size + 1 + 1 := (by omega)))
          (try (have : V.heap.size + 1 + 1 < w5.heap.size := (by omega)))
          (try (have : V.heap.size + 1 + 1 < w5.heap.size + 1 := (by omega)))
          (try (have : V.heap.size + 1 + 1 < w5.heap.size + 1 + 1 := (by omega)))
          (try (have : V.heap.size + 1 + 1 + 1 < w5.heap.size := (by omega)))
          (try (have : V.heap.size + 1 + 1 + 1 < w5.heap.size + 1 := (by omega)))
          (try (have : V.heap.size + 1 + 1 + 1 < w5.heap.size + 1 + 1 := (by omega)))
          simp only [List.drop_succ_cons, List.drop_zero, List.drop_nil]
          have hm := HM1.out
          have hr := HR1.out
          go_wp2
          gi_wp2
          refine ⟨by repeat' first | with_reducible exact Free.Keeps.refl _ _ _ | with_reducible assumption | with_reducible refine Free.Keeps.setCell ?_ (by first | omega | (simp; done) | (simp; omega)) _ | with_reducible refine Free.Keeps.alloc ?_ _ | with_reducible refine Free.Keeps.drew ?_ | with_reducible refine Free.Keeps.grow ?_ (by assumption), by repeat' first | with_reducible exact Below.refl _ _ | with_reducible assumption | with_reducible refine Free.Grow.alloc ?_ _ | with_reducible refine Free.Grow.setCell ?_ (by first | omega | (simp; done) | (simp; omega)) _ | with_reducible refine Free.Grow.drew ?_ | with_reducible refine Free.Grow.trans ?_ (by assumption), by repeat' first | with_reducible assumption | with_reducible exact Free.blk_new _ (by first | rfl | (simp; done)) | with_reducible refine Free.blk_alloc_old ?_ | with_reducible refine Free.blk_drew ?_ | with_reducible refine Free.blk_setCell_far ?_ (by first | omega | (simp; done) | (simp; omega)) _ | with_reducible apply Free.blk_setCell_to | (show Array.setIfInBounds _ _ _ = _; first | exact rfl | (simp; done)) | with_reducible refine Free.blk_below ?_ (by assumption), by repeat' first | with_reducible assumption | with_reducible exact Free.blk_new _ (by first | rfl | (simp; done)) | with_reducible refine Free.blk_alloc_old ?_ | with_reducible refine Free.blk_drew ?_ | with_reducible refine Free.blk_setCell_far ?_ (by first | omega | (simp; done) | (simp; omega)) _ | with_reducible apply Free.blk_setCell_to | (show Array.setIfInBounds _ _ _ = _; first | exact rfl | (simp; done)) | with_reducible refine Free.blk_below ?_ (by assumption), by repeat' first | with_reducible assumption | with_reducible exact Free.blk_new _ (by first | rfl | (simp; done)) | with_reducible refine Free.blk_alloc_old ?_ | with_reducible refine Free.blk_drew ?_ | with_reducible refine Free.blk_setCell_far ?_ (by first | omega | (simp; done) | (simp; omega)) _ | with_reducible apply Free.blk_setCell_to | (show Array.setIfInBounds _ _ _ = _; first | exact rfl | (simp; done)) | with_reducible refine Free.blk_below ?_ (by assumption), by repeat' first | with_reducible assumption | with_reducible exact Free.blk_new _ (by first | rfl | (simp; done)) | with_reducible refine Free.blk_alloc_old ?_ | with_reducible refine Free.blk_drew ?_ | with_reducible refine Free.blk_setCell_far ?_ (by first | omega | (simp; done) | (simp; omega)) _ | with_reducible apply Free.blk_setCell_to | (show Array.setIfInBounds _ _ _ = _; first | exact rfl | (simp; done)) | with_reducible refine Free.blk_below ?_ (by assumption), by repeat' first | with_reducible assumption | with_reducible exact Free.blk_new _ (by first | rfl | (simp; done)) | with_reducible refine Free.blk_alloc_old ?_ | with_reducible refine Free.blk_drew ?_ | with_reducible refine Free.blk_setCell_far ?_ (by first | omega | (simp; done) | (simp; omega)) _ | with_reducible apply Free.blk_setCell_to | (show Array.setIfInBounds _ _ _ = _; first | exact rfl | (simp; done)) | with_reducible refine Free.blk_below ?_ (by assumption), by simp only [HI.out]; repeat' first | with_reducible assumption | with_reducible exact Free.blk_new _ (by first | rfl | (simp; done)) | with_reducible refine Free.blk_alloc_old ?_ | with_reducible refine Free.blk_drew ?_ | with_reducible refine Free.blk_setCell_far ?_ (by first | omega | (simp; done) | (simp; omega)) _ | with_reducible apply Free.blk_setCell_to | (show Array.setIfInBounds _ _ _ = _; first | exact rfl | (simp; done)) | with_reducible refine Free.blk_below ?_ (by assumption), by repeat' first | with_reducible assumption | with_reducible exact Free.blk_new _ (by first | rfl | (simp; done)) | with_reducible refine Free.blk_alloc_old ?_ | with_reducible refine Free.blk_drew ?_ | with_reducible refine Free.blk_setCell_far ?_ (by first | omega | (simp; done) | (simp; omega)) _ | with_reducible apply Free.blk_setCell_to | (show Array.setIfInBounds _ _ _ = _; first | exact rfl | (simp; done)) | with_reducible refine Free.blk_below ?_ (by assumption)⟩
      · have HI := Lib.hid (HNo.out (by rw [hEq.out]; exact hm))
        have HM1 := Lib.hid (show s0 > q2 by omega)
        clear HNew HMore HNo hEq hm
        gi_wp2
        refine Free.wpIn_region 9 #[0, 0, 3, 0, 15, 31, 63, 0, 255] (by kernel_rfl) (by kernel_rfl) (by rintro ⟨_, _, h⟩; exact h) ?_
        simp only [List.take_succ_cons, List.take_zero]
        iterate 9
          refine Free.E.q (by rfl) ?_
          apply Exists.intro
          refine ⟨fun u w' hc hb => ?_, ?_⟩
          go_simp
          (try go_ints); (try simp only [Ob.ite_imx, Ob.ite_imn]); first | exact rfl | (go_simp; exact rfl) | ((go_at_call 82; with_reducible exact HBk'.out _ (HS.out.below (B := V.heap.size) hb (by omega)) (by have := hb.size; omega))) | ((go_at_call 76; exact vectorOf_any _ _ _ _)) | ((go_at_call 87; with_reducible exact HSk'.out _)) | (simp only [↓IntWalk.iteOmega]; (try go_simp); exact rfl)
          simp only [Act.put, List.setIfInBounds_toArray, List.set_cons_zero, List.set_cons_succ, List.nil_append, List.cons_append]
        refine Free.E.nil (fun u w5 S hF => ?_)
        have hb5 := hF.below
        clear hF
        have hc5 := (Free.cells_of hb5).1
        have hf5 := (Free.cells_of hb5).2
        have hz5 := hb5.size
        try simp only [World.size_alloc, World.size_setCell, World.size_drew] at hz5
        (try (have : w.heap.size < w5.heap.size := (by omega)))
        (try (have : w.heap.size < w5.heap.size + 1 := (by omega)))
        (try (have : w.heap.size < w5.heap.size + 1 + 1 := (by omega)))
        (try (have : w.heap.size + 1 < w5.heap.size := (by omega)))
        (try (have : w.heap.size + 1 < w5.heap.size + 1 := (by omega)))
        (try (have : w.heap.size + 1 < w5.heap.size + 1 + 1 := (by omega)))
        (try (have : w.heap.size + 1 + 1 < w5.heap.size := (by omega)))
        (try (have : w.heap.size + 1 + 1 < w5.heap.size + 1 := (by omega)))
        (try (have : w.heap.size + 1 + 1 < w5.heap.size + 1 + 1 := (by omega)))
        (try (have : w.heap.size + 1 + 1 + 1 < w5.heap.size := (by omega)))
        (try (have : w.heap.size + 1 + 1 + 1 < w5.heap.size + 1 := (by omega)))
        (try (have : w.heap.size + 1 + 1 + 1 < w5.heap.size + 1 + 1 := (by omega)))
        (try (have : w1.heap.size < w5.heap.size := (by omega)))
        (try (have : w1.heap.size < w5.heap.size + 1 := (by omega)))
        (try (have : w1.heap.size < w5.heap.size + 1 + 1 := (by omega)))
        (try (have : w1.heap.size + 1 < w5.heap.size := (by omega)))
        (try (have : w1.heap.size + 1 < w5.heap.size + 1 := (by omega)))
        (try (have : w1.heap.size + 1 < w5.heap.size + 1 + 1 := (by omega)))
        (try (have : w1.heap.size + 1 + 1 < w5.heap.size := (by omega)))
        (try (have : w1.heap.size + 1 + 1 < w5.heap.size + 1 := (by omega)))
        (try (have : w1.heap.size + 1 + 1 < w5.heap.size + 1 + 1 := (by omega)))
        (try (have : w1.heap.size + 1 + 1 + 1 < w5.heap.size := (by omega)))
        (try (have : w1.heap.size + 1 + 1 + 1 < w5.heap.size + 1 := (by omega)))
        (try (have : w1.heap.size + 1 + 1 + 1 < w5.heap.size + 1 + 1 := (by omega)))
        (try (have : w2.heap.size < w5.heap.size := (by omega)))
        (try (have : w2.heap.size < w5.heap.size + 1 := (by omega)))
        (try (have : w2.heap.size < w5.heap.size + 1 + 1 := (by omega)))
        (try (have : w2.heap.size + 1 < w5.heap.size := (by omega)))
        (try (have : w2.heap.size + 1 < w5.heap.size + 1 := (by omega)))
        (try (have : w2.heap.size + 1 < w5.heap.size + 1 + 1 := (by omega)))
        (try (have : w2.heap.size + 1 + 1 < w5.heap.size := (by omega)))
        (try (have : w2.heap.size + 1 + 1 < w5.heap.size + 1 := (by omega)))
        (try (have : w2.heap.size + 1 + 1 < w5.heap.size + 1 + 1 := (by omega)))
        (try (have : w2.heap.size + 1 + 1 + 1 < w5.heap.size := (by omega)))
        (try (have : w2.heap.size + 1 + 1 + 1 < w5.heap.size + 1 := (by omega)))
        (try (have : w2.heap.size + 1 + 1 + 1 < w5.heap.size + 1 + 1 := (by omega)))
        (try (have : W.heap.size < w5.heap.size := (by omega)))
        (try (have : W.heap.size < w5.heap.size + 1 := (by omega)))
        (try (have : W.heap.size < w5.heap.size + 1 + 1 := (by omega)))
        (try (have : W.heap.size + 1 < w5.heap.size := (by omega)))
        (try (have : W.heap.size + 1 < w5.heap.size + 1 := (by omega)))
        (try (have : W.heap.size + 1 < w5.heap.size + 1 + 1 := (by omega)))
        (try (have : W.heap.size + 1 + 1 < w5.heap.size := (by omega)))
        (try (have : W.heap.size + 1 + 1 < w5.heap.size + 1 := (by omega)))
        (try (have : W.heap.size + 1 + 1 < w5.heap.size + 1 + 1 := (by omega)))
        (try (have : W.heap.size + 1 + 1 + 1 < w5.heap.size := (by omega)))
        (try (have : W.heap.size + 1 + 1 + 1 < w5.heap.size + 1 := (by omega)))
        (try (have : W.heap.size + 1 + 1 + 1 < w5.heap.size + 1 + 1 := (by omega)))
        (try (have : V.heap.size < w5.heap.size := (by omega)))
        (try (have : V.heap.size < w5.heap.size + 1 := (by omega)))
        (try (have : V.heap.size < w5.heap.size + 1 + 1 := (by omega)))
        (try (have : V.heap.size + 1 < w5.heap.size := (by omega)))
        (try (have : V.heap.size + 1 < w5.heap.size + 1 := (by omega)))
        (try (have : V.heap.size + 1 < w5.heap.size + 1 + 1 := (by omega)))
        (try (have : V.heap.size + 1 + 1 < w5.heap.size := (by omega)))
        (try (have : V.heap.size + 1 + 1 < w5.heap.size + 1 := (by omega)))
        (try (have : V.heap.size + 1 + 1 < w5.heap.size + 1 + 1 := (by omega)))
        (try (have : V.heap.size + 1 + 1 + 1 < w5.heap.size := (by omega)))
        (try (have : V.heap.size + 1 + 1 + 1 < w5.heap.size + 1 := (by omega)))
        (try (have : V.heap.size + 1 + 1 + 1 < w5.heap.size + 1 + 1 := (by omega)))
        simp only [List.drop_succ_cons, List.drop_zero, List.drop_nil]
        have hm := HM1.out
        go_wp2
        gi_wp2
        refine ⟨by repeat' first | with_reducible exact Free.Keeps.refl _ _ _ | with_reducible assumption | with_reducible refine Free.Keeps.setCell ?_ (by first | omega | (simp; done) | (simp; omega)) _ | with_reducible refine Free.Keeps.alloc ?_ _ | with_reducible refine Free.Keeps.drew ?_ | with_reducible refine Free.Keeps.grow ?_ (by assumption), by repeat' first | with_reducible exact Below.refl _ _ | with_reducible assumption | with_reducible refine Free.Grow.alloc ?_ _ | with_reducible refine Free.Grow.setCell ?_ (by first | omega | (simp; done) | (simp; omega)) _ | with_reducible refine Free.Grow.drew ?_ | with_reducible refine Free.Grow.trans ?_ (by assumption), by repeat' first | with_reducible assumption | with_reducible exact Free.blk_new _ (by first | rfl | (simp; done)) | with_reducible refine Free.blk_alloc_old ?_ | with_reducible refine Free.blk_drew ?_ | with_reducible refine Free.blk_setCell_far ?_ (by first | omega | (simp; done) | (simp; omega)) _ | with_reducible apply Free.blk_setCell_to | (show Array.setIfInBounds _ _ _ = _; first | exact rfl | (simp; done)) | with_reducible refine Free.blk_below ?_ (by assumption), by repeat' first | with_reducible assumption | with_reducible exact Free.blk_new _ (by first | rfl | (simp; done)) | with_reducible refine Free.blk_alloc_old ?_ | with_reducible refine Free.blk_drew ?_ | with_reducible refine Free.blk_setCell_far ?_ (by first | omega | (simp; done) | (simp; omega)) _ | with_reducible apply Free.blk_setCell_to | (show Array.setIfInBounds _ _ _ = _; first | exact rfl | (simp; done)) | with_reducible refine Free.blk_below ?_ (by assumption), by repeat' first | with_reducible assumption | with_reducible exact Free.blk_new _ (by first | rfl | (simp; done)) | with_reducible refine Free.blk_alloc_old ?_ | with_reducible refine Free.blk_drew ?_ | with_reducible refine Free.blk_setCell_far ?_ (by first | omega | (simp; done) | (simp; omega)) _ | with_reducible apply Free.blk_setCell_to | (show Array.setIfInBounds _ _ _ = _; first | exact rfl | (simp; done)) | with_reducible refine Free.blk_below ?_ (by assumption), by repeat' first | with_reducible assumption | with_reducible exact Free.blk_new _ (by first | rfl | (simp; done)) | with_reducible refine Free.blk_alloc_old ?_ | with_reducible refine Free.blk_drew ?_ | with_reducible refine Free.blk_setCell_far ?_ (by first | omega | (simp; done) | (simp; omega)) _ | with_reducible apply Free.blk_setCell_to | (show Array.setIfInBounds _ _ _ = _; first | exact rfl | (simp; done)) | with_reducible refine Free.blk_below ?_ (by assumption), by repeat' first | with_reducible assumption | with_reducible exact Free.blk_new _ (by first | rfl | (simp; done)) | with_reducible refine Free.blk_alloc_old ?_ | with_reducible refine Free.blk_drew ?_ | with_reducible refine Free.blk_setCell_far ?_ (by first | omega | (simp; done) | (simp; omega)) _ | with_reducible apply Free.blk_setCell_to | (show Array.setIfInBounds _ _ _ = _; first | exact rfl | (simp; done)) | with_reducible refine Free.blk_below ?_ (by assumption), by simp only [HI.out]; repeat' first | with_reducible assumption | with_reducible exact Free.blk_new _ (by first | rfl | (simp; done)) | with_reducible refine Free.blk_alloc_old ?_ | with_reducible refine Free.blk_drew ?_ | with_reducible refine Free.blk_setCell_far ?_ (by first | omega | (simp; done) | (simp; omega)) _ | with_reducible apply Free.blk_setCell_to | (show Array.setIfInBounds _ _ _ = _; first | exact rfl | (simp; done)) | with_reducible refine Free.blk_below ?_ (by assumption), by repeat' first | with_reducible assumption | with_reducible exact Free.blk_new _ (by first | rfl | (simp; done)) | with_reducible refine Free.blk_alloc_old ?_ | with_reducible refine Free.blk_drew ?_ | with_reducible refine Free.blk_setCell_far ?_ (by first | omega | (simp; done) | (simp; omega)) _ | with_reducible apply Free.blk_setCell_to | (show Array.setIfInBounds _ _ _ = _; first | exact rfl | (simp; done)) | with_reducible refine Free.blk_below ?_ (by assumption)⟩
    case done' =>
      rintro E V hE ⟨hBV, k7, k3, k4, k9, k10, k13, kD⟩ hkE
      have c9 := Free.cell_of_blk k9
      have c13 := Free.cell_of_blk k13
      have c4 := Free.cell_of_blk k4
      have l4 := Free.lt_of_blk k4
      have l9 := Free.lt_of_blk k9
      have l13 := Free.lt_of_blk k13
      have f4 := Free.frozen_of_blk k4
      have hVs := hBV.size
      simp only [World.size_alloc] at hE
      generalize rgTo g q2 (frstT l) N = r at *
      obtain ⟨r1, r2⟩ := r
      simp only at HR c13 k13
      go_wp2
      go_region
      all_goals go_wp2
      have hkE' : ((V.setCell ⟨w.heap.size + 1 + 1, 0, none⟩ (.int .i64 r1)).setCell ⟨w.heap.size + 1 + 1, 1, none⟩ (.int .i64 r2)).drew.heap[E]? = some (.deferred (some [])) := by repeat' first | with_reducible assumption | with_reducible exact Free.blk_new _ (by first | rfl | (simp; done)) | with_reducible refine Free.blk_alloc_old ?_ | with_reducible refine Free.blk_drew ?_ | with_reducible refine Free.blk_setCell_far ?_ (by first | omega | (simp; done) | (simp; omega)) _ | with_reducible apply Free.blk_setCell_to | (show Array.setIfInBounds _ _ _ = _; first | exact rfl | (simp; done)) | with_reducible refine Free.blk_below ?_ (by assumption)
      have hkD' : ((V.setCell ⟨w.heap.size + 1 + 1, 0, none⟩ (.int .i64 r1)).setCell ⟨w.heap.size + 1 + 1, 1, none⟩ (.int .i64 r2)).drew.heap[D]? = some (.deferred (some [])) := by repeat' first | with_reducible assumption | with_reducible exact Free.blk_new _ (by first | rfl | (simp; done)) | with_reducible refine Free.blk_alloc_old ?_ | with_reducible refine Free.blk_drew ?_ | with_reducible refine Free.blk_setCell_far ?_ (by first | omega | (simp; done) | (simp; omega)) _ | with_reducible apply Free.blk_setCell_to | (show Array.setIfInBounds _ _ _ = _; first | exact rfl | (simp; done)) | with_reducible refine Free.blk_below ?_ (by assumption)
      have k4' : ((V.setCell ⟨w.heap.size + 1 + 1, 0, none⟩ (.int .i64 r1)).setCell ⟨w.heap.size + 1 + 1, 1, none⟩ (.int .i64 r2)).drew.heap[w.heap.size + 1 + 1]? = some (.cells #[.int .i64 r1, .int .i64 r2] 44 (0, 0)) := by repeat' first | with_reducible assumption | with_reducible exact Free.blk_new _ (by first | rfl | (simp; done)) | with_reducible refine Free.blk_alloc_old ?_ | with_reducible refine Free.blk_drew ?_ | with_reducible refine Free.blk_setCell_far ?_ (by first | omega | (simp; done) | (simp; omega)) _ | with_reducible apply Free.blk_setCell_to | (show Array.setIfInBounds _ _ _ = _; first | exact rfl | (simp; done)) | with_reducible refine Free.blk_below ?_ (by assumption)
      have d4 := Free.cell_of_blk (Free.blk_put2 (D := D) (o' := .deferred none) (Free.blk_put2 (D := E) (o' := .deferred none) k4' (by omega)) (by omega))
      refine Free.bodyPostE_ret2 (D := E) (E := D) (v := .tuple #[.agg #[.int .i64 r1, .int .i64 r2], .int .i64 q1, .int .i64 0]) (by simp [results, Try.results50, go_sem, *]) rfl hkE' hkD' (by omega) ?_
      exact HR.out _ (Free.Grow.put (Free.Grow.put (by repeat' first | with_reducible exact Below.refl _ _ | with_reducible assumption | with_reducible refine Free.Grow.alloc ?_ _ | with_reducible refine Free.Grow.setCell ?_ (by first | omega | (simp; done) | (simp; omega)) _ | with_reducible refine Free.Grow.drew ?_ | with_reducible refine Free.Grow.trans ?_ (by assumption)) (by omega) hkE' _) (by omega) (Free.blk_put2 (D := E) (o' := .deferred none) hkD' (by omega)) _)
end Go.Proofs.Ytaoennekamlfeaa
