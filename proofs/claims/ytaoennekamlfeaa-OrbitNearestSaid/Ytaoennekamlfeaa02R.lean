/- Chapter 2: MayBeNearest of the reference. -/
import Derived.Test.Ytaoennekamlfeaa02Q
set_option linter.unusedSimpArgs false
set_option linter.unusedVariables false
namespace Go.Proofs.Ytaoennekamlfeaa
open Go.RowKit Go.Ob

set_option maxRecDepth 100000 in
set_option maxHeartbeats 8000000 in
theorem rMayBeNearest_any (nm : ByteArray) (bd x y z : Int) (b off cap : Nat) (l : List St) (w : World) (hR : Right bd l) (hS : HasSts w b off l) (hbw : b < w.heap.size)
    (hx : -100000000 ≤ x ∧ x ≤ 100000000) (hy : -100000000 ≤ y ∧ y ≤ 100000000) (hz : -100000000 ≤ z ∧ z ≤ 100000000) :
    Calls Try.prog 52 #[obV nm bd (some ⟨b, off, none⟩) l.length cap, v3 x y z] w fun e w' => e = .returned (.tuple #[.agg #[.int .i64 (mbR bd l x y z).1, .int .i64 (mbR bd l x y z).2], .int .i64 (mbB bd l x y z).1]) ∧ Below w.heap.size w w' := by
  have hn2 := hR.n2
  have hn40 := hR.n40
  have hfl : frstT l ≤ lastT l := hR.le 0 (l.length - 1) (by omega) (by omega)
  have ht0 : 0 ≤ frstT l := (hR.ok 0 (by omega)).t0
  have ht1 : lastT l ≤ 1000000000 := (hR.ok (l.length - 1) (by omega)).t1
  have HNN : Hid ((nTicks l : Int) = lastT l + 1 - frstT l) := by unfold nTicks; show _ = _; omega
  have HF := Lib.hid (fun w' (hS' : HasSts w' b off l) (hb' : b < w'.heap.size) => First_any nm bd b off cap l w' hS' hb' (by omega) (by omega))
  have HL := Lib.hid (fun w' (hS' : HasSts w' b off l) (hb' : b < w'.heap.size) => Last_any nm bd b off cap l w' hS' hb' (by omega) (by omega))
  have HBf := Lib.hid (fun w' (hS' : HasSts w' b off l) (hb' : b < w'.heap.size) => (same_place hR (t := frstT l) (by omega) (by omega)).2 ▸ rBoxAt_any nm bd (frstT l) b off cap l w' hR (by omega) (by omega) hS' hb')
  have HSf := Lib.hid (fun w => rSquares_any (bx bd l (frstT l)) x y z w (bx_ok hR (by omega) (by omega)) (by omega) (by omega) (by omega))
  have HBk := Lib.hid (fun (k : Nat) (hk : k < nTicks l) w' (hS' : HasSts w' b off l) (hb' : b < w'.heap.size) => (same_place hR (t := frstT l + k) (by omega) (by have := HNN.out; omega)).2 ▸ rBoxAt_any nm bd (frstT l + k) b off cap l w' hR (by omega) (by have := HNN.out; omega) hS' hb')
  have HSk := Lib.hid (fun (k : Nat) (hk : k < nTicks l) w => rSquares_any (bx bd l (frstT l + k)) x y z w (bx_ok hR (by omega) (by have := HNN.out; omega)) (by omega) (by omega) (by omega))
  have HMin := Lib.hid (nearTo_min (f := hsq bd l x y z) (a := frstT l) (N := nTicks l) (fun k hk => by have := sq_lh hR (t := frstT l + k) (by omega) (by have := HNN.out; omega) hx hy hz; omega))
  have HRef := Lib.hid (mb_ok hR hx hy hz).ref
  have h1 : nearTo (hsq bd l x y z) (frstT l) (max 0 1) = (frstT l, sqHi (bx bd l (frstT l)) x y z) := nearTo_one
  have H1 := Lib.hid h1
  have HHs : Hid (∀ t, hsq bd l x y z t = sqHi (bx bd l t) x y z) := fun t => rfl
  have HLs : Hid (∀ t, lsq bd l x y z t = sqLo (bx bd l t) x y z) := fun t => rfl
  have HM := Lib.hid hS
  have hN1 : max (nTicks l) 1 = nTicks l := by have := HNN.out; omega
  have HBB : Hid (mbB bd l x y z = nearTo (hsq bd l x y z) (frstT l) (max (nTicks l) 1)) := by rw [hN1]; exact rfl
  clear hS hR h1 hN1
  rw [← HRef.out, HBB.out]
  generalize hsq bd l x y z = f at *
  generalize lsq bd l x y z = g at *
  generalize nTicks l = N at *
  clear HRef HBB
  refine Calls.made fun R HR => ?_
  go_enter Try.func52, Try.ntmps52
  generalize bx bd l (frstT l) = p at *
  generalize sqHi p x y z = e1 at *
  generalize sqLo p x y z = e0 at *
  go_wp2_with (go_at_call 33; refine (HF.out _ (HM.out.below (B := w.heap.size) (by repeat' first | with_reducible exact Below.refl _ _ | with_reducible assumption | with_reducible refine Free.Grow.alloc ?_ _ | with_reducible refine Free.Grow.setCell ?_ (by first | omega | (simp; done) | (simp; omega)) _ | with_reducible refine Free.Grow.drew ?_ | with_reducible refine Free.Grow.trans ?_ (by assumption)) hbw) (by first | omega | (simp; done) | (simp; omega))).mono ?_; rintro e w1 ⟨rfl, hb1⟩; have hc1 := (Free.cells_of hb1).1; have hf1 := (Free.cells_of hb1).2; have hz1 := hb1.size; (try simp only [World.size_alloc, World.size_setCell, World.size_drew] at hz1); (try (have : w.heap.size < w1.heap.size := (by omega))); (try (have : w.heap.size < w1.heap.size + 1 := (by omega))); (try (have : w.heap.size < w1.heap.size + 1 + 1 := (by omega))); (try (have : w.heap.size + 1 < w1.heap.size := (by omega))); (try (have : w.heap.size + 1 < w1.heap.size + 1 := (by omega))); (try (have : w.heap.size + 1 < w1.heap.size + 1 + 1 := (by omega))); (try (have : w.heap.size + 1 + 1 < w1.heap.size := (by omega))); (try (have : w.heap.size + 1 + 1 < w1.heap.size + 1 := (by omega))); (try (have : w.heap.size + 1 + 1 < w1.heap.size + 1 + 1 := (by omega))); (try (have : w.heap.size + 1 + 1 + 1 < w1.heap.size := (by omega))); (try (have : w.heap.size + 1 + 1 + 1 < w1.heap.size + 1 := (by omega))); (try (have : w.heap.size + 1 + 1 + 1 < w1.heap.size + 1 + 1 := (by omega))))
  refine Free.wp_region 7 #[0, 0, 3, 0, 15, 31, 63] (by kernel_rfl) (by kernel_rfl) ?_
  simp only [List.take_succ_cons, List.take_zero]
  iterate 7
    refine Free.E.q (by rfl) ?_
    apply Exists.intro
    refine ⟨fun u w' hc hb => ?_, ?_⟩
    go_simp
    (try go_ints); (try simp only [Ob.ite_imx, Ob.ite_imn]); first | exact rfl | (go_simp; exact rfl) | ((go_at_call 30; with_reducible exact HBf.out _ (HM.out.below (B := w.heap.size) (by repeat' first | with_reducible exact Below.refl _ _ | with_reducible assumption | with_reducible refine Free.Grow.alloc ?_ _ | with_reducible refine Free.Grow.setCell ?_ (by first | omega | (simp; done) | (simp; omega)) _ | with_reducible refine Free.Grow.drew ?_ | with_reducible refine Free.Grow.trans ?_ (by assumption)) hbw) (by have := hb.size; omega))) | ((go_at_call 41; with_reducible exact HSf.out _)) | (simp only [↓IntWalk.iteOmega]; (try go_simp); exact rfl)
    simp only [Act.put, List.setIfInBounds_toArray, List.set_cons_zero, List.set_cons_succ, List.nil_append, List.cons_append]
  refine Free.E.nil (fun u w2 S hF => ?_)
  have hb2 := hF.below
  clear hF
  have hc2 := (Free.cells_of hb2).1
  have hf2 := (Free.cells_of hb2).2
  have hz2 := hb2.size
  try simp only [World.size_alloc, World.size_setCell, World.size_drew] at hz2
  (try (have : w.heap.size < w2.heap.size := (by omega)))
  (try (have : w.heap.size < w2.heap.size + 1 := (by omega)))
  (try (have : w.heap.size < w2.heap.size + 1 + 1 := (by omega)))
  (try (have : w.heap.size + 1 < w2.heap.size := (by omega)))
  (try (have : w.heap.size + 1 < w2.heap.size + 1 := (by omega)))
  (try (have : w.heap.size + 1 < w2.heap.size + 1 + 1 := (by omega)))
  (try (have : w.heap.size + 1 + 1 < w2.heap.size := (by omega)))
  (try (have : w.heap.size + 1 + 1 < w2.heap.size + 1 := (by omega)))
  (try (have : w.heap.size + 1 + 1 < w2.heap.size + 1 + 1 := (by omega)))
  (try (have : w.heap.size + 1 + 1 + 1 < w2.heap.size := (by omega)))
  (try (have : w.heap.size + 1 + 1 + 1 < w2.heap.size + 1 := (by omega)))
  (try (have : w.heap.size + 1 + 1 + 1 < w2.heap.size + 1 + 1 := (by omega)))
  (try (have : w1.heap.size < w2.heap.size := (by omega)))
  (try (have : w1.heap.size < w2.heap.size + 1 := (by omega)))
  (try (have : w1.heap.size < w2.heap.size + 1 + 1 := (by omega)))
  (try (have : w1.heap.size + 1 < w2.heap.size := (by omega)))
  (try (have : w1.heap.size + 1 < w2.heap.size + 1 := (by omega)))
  (try (have : w1.heap.size + 1 < w2.heap.size + 1 + 1 := (by omega)))
  (try (have : w1.heap.size + 1 + 1 < w2.heap.size := (by omega)))
  (try (have : w1.heap.size + 1 + 1 < w2.heap.size + 1 := (by omega)))
  (try (have : w1.heap.size + 1 + 1 < w2.heap.size + 1 + 1 := (by omega)))
  (try (have : w1.heap.size + 1 + 1 + 1 < w2.heap.size := (by omega)))
  (try (have : w1.heap.size + 1 + 1 + 1 < w2.heap.size + 1 := (by omega)))
  (try (have : w1.heap.size + 1 + 1 + 1 < w2.heap.size + 1 + 1 := (by omega)))
  simp only [List.drop_succ_cons, List.drop_zero, List.drop_nil]
  go_wp2_with (go_at_call 33; refine (HF.out _ (HM.out.below (B := w.heap.size) (by repeat' first | with_reducible exact Below.refl _ _ | with_reducible assumption | with_reducible refine Free.Grow.alloc ?_ _ | with_reducible refine Free.Grow.setCell ?_ (by first | omega | (simp; done) | (simp; omega)) _ | with_reducible refine Free.Grow.drew ?_ | with_reducible refine Free.Grow.trans ?_ (by assumption)) hbw) (by first | omega | (simp; done) | (simp; omega))).mono ?_; rintro e w3 ⟨rfl, hb3⟩; have hc3 := (Free.cells_of hb3).1; have hf3 := (Free.cells_of hb3).2; have hz3 := hb3.size; (try simp only [World.size_alloc, World.size_setCell, World.size_drew] at hz3); (try (have : w.heap.size < w3.heap.size := (by omega))); (try (have : w.heap.size < w3.heap.size + 1 := (by omega))); (try (have : w.heap.size < w3.heap.size + 1 + 1 := (by omega))); (try (have : w.heap.size + 1 < w3.heap.size := (by omega))); (try (have : w.heap.size + 1 < w3.heap.size + 1 := (by omega))); (try (have : w.heap.size + 1 < w3.heap.size + 1 + 1 := (by omega))); (try (have : w.heap.size + 1 + 1 < w3.heap.size := (by omega))); (try (have : w.heap.size + 1 + 1 < w3.heap.size + 1 := (by omega))); (try (have : w.heap.size + 1 + 1 < w3.heap.size + 1 + 1 := (by omega))); (try (have : w.heap.size + 1 + 1 + 1 < w3.heap.size := (by omega))); (try (have : w.heap.size + 1 + 1 + 1 < w3.heap.size + 1 := (by omega))); (try (have : w.heap.size + 1 + 1 + 1 < w3.heap.size + 1 + 1 := (by omega))); (try (have : w1.heap.size < w3.heap.size := (by omega))); (try (have : w1.heap.size < w3.heap.size + 1 := (by omega))); (try (have : w1.heap.size < w3.heap.size + 1 + 1 := (by omega))); (try (have : w1.heap.size + 1 < w3.heap.size := (by omega))); (try (have : w1.heap.size + 1 < w3.heap.size + 1 := (by omega))); (try (have : w1.heap.size + 1 < w3.heap.size + 1 + 1 := (by omega))); (try (have : w1.heap.size + 1 + 1 < w3.heap.size := (by omega))); (try (have : w1.heap.size + 1 + 1 < w3.heap.size + 1 := (by omega))); (try (have : w1.heap.size + 1 + 1 < w3.heap.size + 1 + 1 := (by omega))); (try (have : w1.heap.size + 1 + 1 + 1 < w3.heap.size := (by omega))); (try (have : w1.heap.size + 1 + 1 + 1 < w3.heap.size + 1 := (by omega))); (try (have : w1.heap.size + 1 + 1 + 1 < w3.heap.size + 1 + 1 := (by omega))); (try (have : w2.heap.size < w3.heap.size := (by omega))); (try (have : w2.heap.size < w3.heap.size + 1 := (by omega))); (try (have : w2.heap.size < w3.heap.size + 1 + 1 := (by omega))); (try (have : w2.heap.size + 1 < w3.heap.size := (by omega))); (try (have : w2.heap.size + 1 < w3.heap.size + 1 := (by omega))); (try (have : w2.heap.size + 1 < w3.heap.size + 1 + 1 := (by omega))); (try (have : w2.heap.size + 1 + 1 < w3.heap.size := (by omega))); (try (have : w2.heap.size + 1 + 1 < w3.heap.size + 1 := (by omega))); (try (have : w2.heap.size + 1 + 1 < w3.heap.size + 1 + 1 := (by omega))); (try (have : w2.heap.size + 1 + 1 + 1 < w3.heap.size := (by omega))); (try (have : w2.heap.size + 1 + 1 + 1 < w3.heap.size + 1 := (by omega))); (try (have : w2.heap.size + 1 + 1 + 1 < w3.heap.size + 1 + 1 := (by omega))))
  have s2 : Hid (w3.heap[w.heap.size]? = some (.cells #[.string nm, .int .i64 bd, .slice (some ⟨b, off, none⟩) l.length cap] 24 (0, 0))) := by unfold Hid; repeat' first | with_reducible assumption | with_reducible exact Free.blk_new _ (by first | rfl | (simp; done)) | with_reducible refine Free.blk_alloc_old ?_ | with_reducible refine Free.blk_drew ?_ | with_reducible refine Free.blk_setCell_far ?_ (by first | omega | (simp; done) | (simp; omega)) _ | with_reducible apply Free.blk_setCell_to | (show Array.setIfInBounds _ _ _ = _; first | exact rfl | (simp; done)) | with_reducible refine Free.blk_below ?_ (by assumption)
  have s3 : Hid (w3.heap[w.heap.size + 1]? = some (.cells #[.int .i64 x, .int .i64 y, .int .i64 z] 26 (0, 0))) := by unfold Hid; repeat' first | with_reducible assumption | with_reducible exact Free.blk_new _ (by first | rfl | (simp; done)) | with_reducible refine Free.blk_alloc_old ?_ | with_reducible refine Free.blk_drew ?_ | with_reducible refine Free.blk_setCell_far ?_ (by first | omega | (simp; done) | (simp; omega)) _ | with_reducible apply Free.blk_setCell_to | (show Array.setIfInBounds _ _ _ = _; first | exact rfl | (simp; done)) | with_reducible refine Free.blk_below ?_ (by assumption)
  have s4 : Hid (w3.heap[w.heap.size + 1 + 1]? = some (.cells #[.int .i64 0, .int .i64 0] 44 (0, 0))) := by unfold Hid; repeat' first | with_reducible assumption | with_reducible exact Free.blk_new _ (by first | rfl | (simp; done)) | with_reducible refine Free.blk_alloc_old ?_ | with_reducible refine Free.blk_drew ?_ | with_reducible refine Free.blk_setCell_far ?_ (by first | omega | (simp; done) | (simp; omega)) _ | with_reducible apply Free.blk_setCell_to | (show Array.setIfInBounds _ _ _ = _; first | exact rfl | (simp; done)) | with_reducible refine Free.blk_below ?_ (by assumption)
  have sB : Hid (Below w.heap.size w w3) := by unfold Hid; repeat' first | with_reducible exact Below.refl _ _ | with_reducible assumption | with_reducible refine Free.Grow.alloc ?_ _ | with_reducible refine Free.Grow.setCell ?_ (by first | omega | (simp; done) | (simp; omega)) _ | with_reducible refine Free.Grow.drew ?_ | with_reducible refine Free.Grow.trans ?_ (by assumption)
  go_loopw [6, 7, 8, 9] (fun i q t _ wr => ∃ k : Nat, k ≤ N ∧ t = .int .i64 (frstT l + k) ∧ i = .int .i64 (nearTo f (frstT l) (max k 1)).1 ∧ q = .int .i64 (nearTo f (frstT l) (max k 1)).2 ∧ Hid (Below w.heap.size w wr) ∧ Hid (wr.heap[w.heap.size]? = some (.cells #[.string nm, .int .i64 bd, .slice (some ⟨b, off, none⟩) l.length cap] 24 (0, 0))) ∧
      Hid (wr.heap[w.heap.size + 1]? = some (.cells #[.int .i64 x, .int .i64 y, .int .i64 z] 26 (0, 0))) ∧ Hid (wr.heap[w.heap.size + 1 + 1]? = some (.cells #[.int .i64 0, .int .i64 0] 44 (0, 0)))) (fun _ _ t _ _ => (lastT l + 1 - intOf t).toNat)
  case atStart => exact ⟨0, Nat.zero_le _, by simp, by rw [H1.out], by rw [H1.out], sB, s2, s3, s4⟩
  case round =>
    obtain ⟨k, hk, rfl, rfl, rfl, HB, HK2, HK3, HK4⟩ := hrel
    clear s2 s3 s4 sB
    have hbr := HB.out
    have k2 := HK2.out
    have k3 := HK3.out
    have k4 := HK4.out
    have c2 := Free.cell_of_blk k2
    have c3 := Free.cell_of_blk k3
    have l2 := Free.lt_of_blk k2
    have l3 := Free.lt_of_blk k3
    have l4 := Free.lt_of_blk k4
    have hwr := hbr.size
    clear HK2 HK3 HK4
    have HY := Lib.hid (nx_yes (f := f) (a := frstT l) (k := k))
    have HX := Lib.hid (nx_no (f := f) (a := frstT l) (k := k))
    by_cases hlt2 : k < N
    · have ht : frstT l + k ≤ lastT l := by have := HNN.out; omega
      have hq0 := (HMin.out (max k 1) (by omega) (by omega)).1
      have HBk' := Lib.hid (HBk.out k hlt2)
      have HSk' := Lib.hid (HSk.out k hlt2)
      have HE' := Lib.hid (HHs.out (frstT l + k))
      clear HR
      generalize nearTo f (frstT l) (max k 1) = r at *
      obtain ⟨r1, r2⟩ := r
      generalize bx bd l (frstT l + k) = q at *
      generalize sqHi q x y z = d at *
      generalize sqLo q x y z = d0 at *
      simp only at HY HX hq0
      by_cases hc : d < r2
      · have HI := Lib.hid (HY.out (by rw [HE'.out]; exact hc))
        rw [HE'.out] at HI
        have HC2 := Lib.hid hc
        clear HY HX HE' hc
        go_wp2_with (go_at_call 34; refine (HL.out _ (HM.out.below (B := w.heap.size) (by repeat' first | with_reducible exact Below.refl _ _ | with_reducible assumption | with_reducible refine Free.Grow.alloc ?_ _ | with_reducible refine Free.Grow.setCell ?_ (by first | omega | (simp; done) | (simp; omega)) _ | with_reducible refine Free.Grow.drew ?_ | with_reducible refine Free.Grow.trans ?_ (by assumption)) hbw) (by first | omega | (simp; done) | (simp; omega))).mono ?_; rintro e w4 ⟨rfl, hb4⟩; have hc4 := (Free.cells_of hb4).1; have hf4 := (Free.cells_of hb4).2; have hz4 := hb4.size; (try simp only [World.size_alloc, World.size_setCell, World.size_drew] at hz4); (try (have : w.heap.size < w4.heap.size := (by omega))); (try (have : w.heap.size < w4.heap.size + 1 := (by omega))); (try (have : w.heap.size < w4.heap.size + 1 + 1 := (by omega))); (try (have : w.heap.size + 1 < w4.heap.size := (by omega))); (try (have : w.heap.size + 1 < w4.heap.size + 1 := (by omega))); (try (have : w.heap.size + 1 < w4.heap.size + 1 + 1 := (by omega))); (try (have : w.heap.size + 1 + 1 < w4.heap.size := (by omega))); (try (have : w.heap.size + 1 + 1 < w4.heap.size + 1 := (by omega))); (try (have : w.heap.size + 1 + 1 < w4.heap.size + 1 + 1 := (by omega))); (try (have : w.heap.size + 1 + 1 + 1 < w4.heap.size := (by omega))); (try (have : w.heap.size + 1 + 1 + 1 < w4.heap.size + 1 := (by omega))); (try (have : w.heap.size + 1 + 1 + 1 < w4.heap.size + 1 + 1 := (by omega))); (try (have : wr.heap.size < w4.heap.size := (by omega))); (try (have : wr.heap.size < w4.heap.size + 1 := (by omega))); (try (have : wr.heap.size < w4.heap.size + 1 + 1 := (by omega))); (try (have : wr.heap.size + 1 < w4.heap.size := (by omega))); (try (have : wr.heap.size + 1 < w4.heap.size + 1 := (by omega))); (try (have : wr.heap.size + 1 < w4.heap.size + 1 + 1 := (by omega))); (try (have : wr.heap.size + 1 + 1 < w4.heap.size := (by omega))); (try (have : wr.heap.size + 1 + 1 < w4.heap.size + 1 := (by omega))); (try (have : wr.heap.size + 1 + 1 < w4.heap.size + 1 + 1 := (by omega))); (try (have : wr.heap.size + 1 + 1 + 1 < w4.heap.size := (by omega))); (try (have : wr.heap.size + 1 + 1 + 1 < w4.heap.size + 1 := (by omega))); (try (have : wr.heap.size + 1 + 1 + 1 < w4.heap.size + 1 + 1 := (by omega))))
        refine Free.wp_region 7 #[0, 0, 3, 0, 15, 31, 63] (by kernel_rfl) (by kernel_rfl) ?_
        simp only [List.take_succ_cons, List.take_zero]
        iterate 7
          refine Free.E.q (by rfl) ?_
          apply Exists.intro
          refine ⟨fun u w' hc hb => ?_, ?_⟩
          go_simp
          (try go_ints); (try simp only [Ob.ite_imx, Ob.ite_imn]); first | exact rfl | (go_simp; exact rfl) | ((go_at_call 30; with_reducible exact HBk'.out _ (HM.out.below (B := w.heap.size) (by repeat' first | with_reducible exact Below.refl _ _ | with_reducible assumption | with_reducible refine Free.Grow.alloc ?_ _ | with_reducible refine Free.Grow.setCell ?_ (by first | omega | (simp; done) | (simp; omega)) _ | with_reducible refine Free.Grow.drew ?_ | with_reducible refine Free.Grow.trans ?_ (by assumption)) hbw) (by have := hb.size; omega))) | ((go_at_call 41; with_reducible exact HSk'.out _)) | (simp only [↓IntWalk.iteOmega]; (try go_simp); exact rfl)
          simp only [Act.put, List.setIfInBounds_toArray, List.set_cons_zero, List.set_cons_succ, List.nil_append, List.cons_append]
        refine Free.E.nil (fun u w5 S hF => ?_)
        have hb5 := hF.below
        clear hF
        have hc5 := (Free.cells_of hb5).1
        have hf5 := (Free.cells_of hb5).2
        have hz5 := hb5.size
        try simp only [World.size_alloc, World.size_setCell, World.size_drew] at hz5
        (try (have : w.heap.size < w5.heap.size := (by omega)))
        (try (have : w.heap.size < w5.heap.size + 1 := (by omega)))
        (try (have : w.heap.size < w5.heap.size + 1 + 1 := (by omega)))
        (try (have : w.heap.size + 1 < w5.heap.size := (by omega)))
        (try (have : w.heap.size + 1 < w5.heap.size + 1 := (by omega)))
        (try (have : w.heap.size + 1 < w5.heap.size + 1 + 1 := (by omega)))
        (try (have : w.heap.size + 1 + 1 < w5.heap.size := (by omega)))
        (try (have : w.heap.size + 1 + 1 < w5.heap.size + 1 := (by omega)))
        (try (have : w.heap.size + 1 + 1 < w5.heap.size + 1 + 1 := (by omega)))
        (try (have : w.heap.size + 1 + 1 + 1 < w5.heap.size := (by omega)))
        (try (have : w.heap.size + 1 + 1 + 1 < w5.heap.size + 1 := (by omega)))
        (try (have : w.heap.size + 1 + 1 + 1 < w5.heap.size + 1 + 1 := (by omega)))
        (try (have : wr.heap.size < w5.heap.size := (by omega)))
        (try (have : wr.heap.size < w5.heap.size + 1 := (by omega)))
        (try (have : wr.heap.size < w5.heap.size + 1 + 1 := (by omega)))
        (try (have : wr.heap.size + 1 < w5.heap.size := (by omega)))
        (try (have : wr.heap.size + 1 < w5.heap.size + 1 := (by omega)))
        (try (have : wr.heap.size + 1 < w5.heap.size + 1 + 1 := (by omega)))
        (try (have : wr.heap.size + 1 + 1 < w5.heap.size := (by omega)))
        (try (have : wr.heap.size + 1 + 1 < w5.heap.size + 1 := (by omega)))
        (try (have : wr.heap.size + 1 + 1 < w5.heap.size + 1 + 1 := (by omega)))
        (try (have : wr.heap.size + 1 + 1 + 1 < w5.heap.size := (by omega)))
        (try (have : wr.heap.size + 1 + 1 + 1 < w5.heap.size + 1 := (by omega)))
        (try (have : wr.heap.size + 1 + 1 + 1 < w5.heap.size + 1 + 1 := (by omega)))
        (try (have : w4.heap.size < w5.heap.size := (by omega)))
        (try (have : w4.heap.size < w5.heap.size + 1 := (by omega)))
        (try (have : w4.heap.size < w5.heap.size + 1 + 1 := (by omega)))
        (try (have : w4.heap.size + 1 < w5.heap.size := (by omega)))
        (try (have : w4.heap.size + 1 < w5.heap.size + 1 := (by omega)))
        (try (have : w4.heap.size + 1 < w5.heap.size + 1 + 1 := (by omega)))
        (try (have : w4.heap.size + 1 + 1 < w5.heap.size := (by omega)))
        (try (have : w4.heap.size + 1 + 1 < w5.heap.size + 1 := (by omega)))
        (try (have : w4.heap.size + 1 + 1 < w5.heap.size + 1 + 1 := (by omega)))
        (try (have : w4.heap.size + 1 + 1 + 1 < w5.heap.size := (by omega)))
        (try (have : w4.heap.size + 1 + 1 + 1 < w5.heap.size + 1 := (by omega)))
        (try (have : w4.heap.size + 1 + 1 + 1 < w5.heap.size + 1 + 1 := (by omega)))
        simp only [List.drop_succ_cons, List.drop_zero, List.drop_nil]
        have hc := HC2.out
        go_wp2
        go_roundw
        case rel => exact ⟨k + 1, by omega, by go_num, by rw [HI.out], by rw [HI.out], Lib.hid (by repeat' first | with_reducible exact Below.refl _ _ | with_reducible assumption | with_reducible refine Free.Grow.alloc ?_ _ | with_reducible refine Free.Grow.setCell ?_ (by first | omega | (simp; done) | (simp; omega)) _ | with_reducible refine Free.Grow.drew ?_ | with_reducible refine Free.Grow.trans ?_ (by assumption)), Lib.hid (by repeat' first | with_reducible assumption | with_reducible exact Free.blk_new _ (by first | rfl | (simp; done)) | with_reducible refine Free.blk_alloc_old ?_ | with_reducible refine Free.blk_drew ?_ | with_reducible refine Free.blk_setCell_far ?_ (by first | omega | (simp; done) | (simp; omega)) _ | with_reducible apply Free.blk_setCell_to | (show Array.setIfInBounds _ _ _ = _; first | exact rfl | (simp; done)) | with_reducible refine Free.blk_below ?_ (by assumption)), Lib.hid (by repeat' first | with_reducible assumption | with_reducible exact Free.blk_new _ (by first | rfl | (simp; done)) | with_reducible refine Free.blk_alloc_old ?_ | with_reducible refine Free.blk_drew ?_ | with_reducible refine Free.blk_setCell_far ?_ (by first | omega | (simp; done) | (simp; omega)) _ | with_reducible apply Free.blk_setCell_to | (show Array.setIfInBounds _ _ _ = _; first | exact rfl | (simp; done)) | with_reducible refine Free.blk_below ?_ (by assumption)), Lib.hid (by repeat' first | with_reducible assumption | with_reducible exact Free.blk_new _ (by first | rfl | (simp; done)) | with_reducible refine Free.blk_alloc_old ?_ | with_reducible refine Free.blk_drew ?_ | with_reducible refine Free.blk_setCell_far ?_ (by first | omega | (simp; done) | (simp; omega)) _ | with_reducible apply Free.blk_setCell_to | (show Array.setIfInBounds _ _ _ = _; first | exact rfl | (simp; done)) | with_reducible refine Free.blk_below ?_ (by assumption))⟩
        case measure => simp [intOf]; omega
      · have HI := Lib.hid (HX.out (by rw [HE'.out]; exact hc) hq0)
        have HC2 := Lib.hid hc
        clear HY HX HE' hc
        go_wp2_with (go_at_call 34; refine (HL.out _ (HM.out.below (B := w.heap.size) (by repeat' first | with_reducible exact Below.refl _ _ | with_reducible assumption | with_reducible refine Free.Grow.alloc ?_ _ | with_reducible refine Free.Grow.setCell ?_ (by first | omega | (simp; done) | (simp; omega)) _ | with_reducible refine Free.Grow.drew ?_ | with_reducible refine Free.Grow.trans ?_ (by assumption)) hbw) (by first | omega | (simp; done) | (simp; omega))).mono ?_; rintro e w4 ⟨rfl, hb4⟩; have hc4 := (Free.cells_of hb4).1; have hf4 := (Free.cells_of hb4).2; have hz4 := hb4.size; (try simp only [World.size_alloc, World.size_setCell, World.size_drew] at hz4); (try (have : w.heap.size < w4.heap.size := (by omega))); (try (have : w.heap.size < w4.heap.size + 1 := (by omega))); (try (have : w.heap.size < w4.heap.size + 1 + 1 := (by omega))); (try (have : w.heap.size + 1 < w4.heap.size := (by omega))); (try (have : w.heap.size + 1 < w4.heap.size + 1 := (by omega))); (try (have : w.heap.size + 1 < w4.heap.size + 1 + 1 := (by omega))); (try (have : w.heap.size + 1 + 1 < w4.heap.size := (by omega))); (try (have : w.heap.size + 1 + 1 < w4.heap.size + 1 := (by omega))); (try (have : w.heap.size + 1 + 1 < w4.heap.size + 1 + 1 := (by omega))); (try (have : w.heap.size + 1 + 1 + 1 < w4.heap.size := (by omega))); (try (have : w.heap.size + 1 + 1 + 1 < w4.heap.size + 1 := (by omega))); (try (have : w.heap.size + 1 + 1 + 1 < w4.heap.size + 1 + 1 := (by omega))); (try (have : wr.heap.size < w4.heap.size := (by omega))); (try (have : wr.heap.size < w4.heap.size + 1 := (by omega))); (try (have : wr.heap.size < w4.heap.size + 1 + 1 := (by omega))); (try (have : wr.heap.size + 1 < w4.heap.size := (by omega))); (try (have : wr.heap.size + 1 < w4.heap.size + 1 := (by omega))); (try (have : wr.heap.size + 1 < w4.heap.size + 1 + 1 := (by omega))); (try (have : wr.heap.size + 1 + 1 < w4.heap.size := (by omega))); (try (have : wr.heap.size + 1 + 1 < w4.heap.size + 1 := (by omega))); (try (have : wr.heap.size + 1 + 1 < w4.heap.size + 1 + 1 := (by omega))); (try (have : wr.heap.size + 1 + 1 + 1 < w4.heap.size := (by omega))); (try (have : wr.heap.size + 1 + 1 + 1 < w4.heap.size + 1 := (by omega))); (try (have : wr.heap.size + 1 + 1 + 1 < w4.heap.size + 1 + 1 := (by omega))))
        refine Free.wp_region 7 #[0, 0, 3, 0, 15, 31, 63] (by kernel_rfl) (by kernel_rfl) ?_
        simp only [List.take_succ_cons, List.take_zero]
        iterate 7
          refine Free.E.q (by rfl) ?_
          apply Exists.intro
          refine ⟨fun u w' hc hb => ?_, ?_⟩
          go_simp
          (try go_ints); (try simp only [Ob.ite_imx, Ob.ite_imn]); first | exact rfl | (go_simp; exact rfl) | ((go_at_call 30; with_reducible exact HBk'.out _ (HM.out.below (B := w.heap.size) (by repeat' first | with_reducible exact Below.refl _ _ | with_reducible assumption | with_reducible refine Free.Grow.alloc ?_ _ | with_reducible refine Free.Grow.setCell ?_ (by first | omega | (simp; done) | (simp; omega)) _ | with_reducible refine Free.Grow.drew ?_ | with_reducible refine Free.Grow.trans ?_ (by assumption)) hbw) (by have := hb.size; omega))) | ((go_at_call 41; with_reducible exact HSk'.out _)) | (simp only [↓IntWalk.iteOmega]; (try go_simp); exact rfl)
          simp only [Act.put, List.setIfInBounds_toArray, List.set_cons_zero, List.set_cons_succ, List.nil_append, List.cons_append]
        refine Free.E.nil (fun u w5 S hF => ?_)
        have hb5 := hF.below
        clear hF
        have hc5 := (Free.cells_of hb5).1
        have hf5 := (Free.cells_of hb5).2
        have hz5 := hb5.size
        try simp only [World.size_alloc, World.size_setCell, World.size_drew] at hz5
        (try (have : w.heap.size < w5.heap.size := (by omega)))
        (try (have : w.heap.size < w5.heap.size + 1 := (by omega)))
        (try (have : w.heap.size < w5.heap.size + 1 + 1 := (by omega)))
        (try (have : w.heap.size + 1 < w5.heap.size := (by omega)))
        (try (have : w.heap.size + 1 < w5.heap.size + 1 := (by omega)))
        (try (have : w.heap.size + 1 < w5.heap.size + 1 + 1 := (by omega)))
        (try (have : w.heap.size + 1 + 1 < w5.heap.size := (by omega)))
        (try (have : w.heap.size + 1 + 1 < w5.heap.size + 1 := (by omega)))
        (try (have : w.heap.size + 1 + 1 < w5.heap.size + 1 + 1 := (by omega)))
        (try (have : w.heap.size + 1 + 1 + 1 < w5.heap.size := (by omega)))
        (try (have : w.heap.size + 1 + 1 + 1 < w5.heap.size + 1 := (by omega)))
        (try (have : w.heap.size + 1 + 1 + 1 < w5.heap.size + 1 + 1 := (by omega)))
        (try (have : wr.heap.size < w5.heap.size := (by omega)))
        (try (have : wr.heap.size < w5.heap.size + 1 := (by omega)))
        (try (have : wr.heap.size < w5.heap.size + 1 + 1 := (by omega)))
        (try (have : wr.heap.size + 1 < w5.heap.size := (by omega)))
        (try (have : wr.heap.size + 1 < w5.heap.size + 1 := (by omega)))
        (try (have : wr.heap.size + 1 < w5.heap.size + 1 + 1 := (by omega)))
        (try (have : wr.heap.size + 1 + 1 < w5.heap.size := (by omega)))
        (try (have : wr.heap.size + 1 + 1 < w5.heap.size + 1 := (by omega)))
        (try (have : wr.heap.size + 1 + 1 < w5.heap.size + 1 + 1 := (by omega)))
        (try (have : wr.heap.size + 1 + 1 + 1 < w5.heap.size := (by omega)))
        (try (have : wr.heap.size + 1 + 1 + 1 < w5.heap.size + 1 := (by omega)))
        (try (have : wr.heap.size + 1 + 1 + 1 < w5.heap.size + 1 + 1 := (by omega)))
        (try (have : w4.heap.size < w5.heap.size := (by omega)))
        (try (have : w4.heap.size < w5.heap.size + 1 := (by omega)))
        (try (have : w4.heap.size < w5.heap.size + 1 + 1 := (by omega)))
        (try (have : w4.heap.size + 1 < w5.heap.size := (by omega)))
        (try (have : w4.heap.size + 1 < w5.heap.size + 1 := (by omega)))
        (try (have : w4.heap.size + 1 < w5.heap.size + 1 + 1 := (by omega)))
        (try (have : w4.heap.size + 1 + 1 < w5.heap.size := (by omega)))
        (try (have : w4.heap.size + 1 + 1 < w5.heap.size + 1 := (by omega)))
        (try (have : w4.heap.size + 1 + 1 < w5.heap.size + 1 + 1 := (by omega)))
        (try (have : w4.heap.size + 1 + 1 + 1 < w5.heap.size := (by omega)))
        (try (have : w4.heap.size + 1 + 1 + 1 < w5.heap.size + 1 := (by omega)))
        (try (have : w4.heap.size + 1 + 1 + 1 < w5.heap.size + 1 + 1 := (by omega)))
        simp only [List.drop_succ_cons, List.drop_zero, List.drop_nil]
        have hc := HC2.out
        go_wp2
        go_roundw
        case rel => exact ⟨k + 1, by omega, by go_num, by rw [HI.out], by rw [HI.out], Lib.hid (by repeat' first | with_reducible exact Below.refl _ _ | with_reducible assumption | with_reducible refine Free.Grow.alloc ?_ _ | with_reducible refine Free.Grow.setCell ?_ (by first | omega | (simp; done) | (simp; omega)) _ | with_reducible refine Free.Grow.drew ?_ | with_reducible refine Free.Grow.trans ?_ (by assumption)), Lib.hid (by repeat' first | with_reducible assumption | with_reducible exact Free.blk_new _ (by first | rfl | (simp; done)) | with_reducible refine Free.blk_alloc_old ?_ | with_reducible refine Free.blk_drew ?_ | with_reducible refine Free.blk_setCell_far ?_ (by first | omega | (simp; done) | (simp; omega)) _ | with_reducible apply Free.blk_setCell_to | (show Array.setIfInBounds _ _ _ = _; first | exact rfl | (simp; done)) | with_reducible refine Free.blk_below ?_ (by assumption)), Lib.hid (by repeat' first | with_reducible assumption | with_reducible exact Free.blk_new _ (by first | rfl | (simp; done)) | with_reducible refine Free.blk_alloc_old ?_ | with_reducible refine Free.blk_drew ?_ | with_reducible refine Free.blk_setCell_far ?_ (by first | omega | (simp; done) | (simp; omega)) _ | with_reducible apply Free.blk_setCell_to | (show Array.setIfInBounds _ _ _ = _; first | exact rfl | (simp; done)) | with_reducible refine Free.blk_below ?_ (by assumption)), Lib.hid (by repeat' first | with_reducible assumption | with_reducible exact Free.blk_new _ (by first | rfl | (simp; done)) | with_reducible refine Free.blk_alloc_old ?_ | with_reducible refine Free.blk_drew ?_ | with_reducible refine Free.blk_setCell_far ?_ (by first | omega | (simp; done) | (simp; omega)) _ | with_reducible apply Free.blk_setCell_to | (show Array.setIfInBounds _ _ _ = _; first | exact rfl | (simp; done)) | with_reducible refine Free.blk_below ?_ (by assumption))⟩
        case measure => simp [intOf]; omega
    · obtain rfl : k = N := by omega
      have ht : ¬ frstT l + k ≤ lastT l := by have := HNN.out; omega
      clear HY HX hlt2
      generalize nearTo f (frstT l) (max k 1) = r at *
      obtain ⟨bt, m⟩ := r
      simp only at HR
      go_wp2_with (first | (go_at_call 34; refine (HL.out _ (HM.out.below (B := w.heap.size) (by repeat' first | with_reducible exact Below.refl _ _ | with_reducible assumption | with_reducible refine Free.Grow.alloc ?_ _ | with_reducible refine Free.Grow.setCell ?_ (by first | omega | (simp; done) | (simp; omega)) _ | with_reducible refine Free.Grow.drew ?_ | with_reducible refine Free.Grow.trans ?_ (by assumption)) hbw) (by first | omega | (simp; done) | (simp; omega))).mono ?_; rintro e w4 ⟨rfl, hb4⟩; have hc4 := (Free.cells_of hb4).1; have hf4 := (Free.cells_of hb4).2; have hz4 := hb4.size; (try simp only [World.size_alloc, World.size_setCell, World.size_drew] at hz4); (try (have : w.heap.size < w4.heap.size := (by omega))); (try (have : w.heap.size < w4.heap.size + 1 := (by omega))); (try (have : w.heap.size < w4.heap.size + 1 + 1 := (by omega))); (try (have : w.heap.size + 1 < w4.heap.size := (by omega))); (try (have : w.heap.size + 1 < w4.heap.size + 1 := (by omega))); (try (have : w.heap.size + 1 < w4.heap.size + 1 + 1 := (by omega))); (try (have : w.heap.size + 1 + 1 < w4.heap.size := (by omega))); (try (have : w.heap.size + 1 + 1 < w4.heap.size + 1 := (by omega))); (try (have : w.heap.size + 1 + 1 < w4.heap.size + 1 + 1 := (by omega))); (try (have : w.heap.size + 1 + 1 + 1 < w4.heap.size := (by omega))); (try (have : w.heap.size + 1 + 1 + 1 < w4.heap.size + 1 := (by omega))); (try (have : w.heap.size + 1 + 1 + 1 < w4.heap.size + 1 + 1 := (by omega))); (try (have : wr.heap.size < w4.heap.size := (by omega))); (try (have : wr.heap.size < w4.heap.size + 1 := (by omega))); (try (have : wr.heap.size < w4.heap.size + 1 + 1 := (by omega))); (try (have : wr.heap.size + 1 < w4.heap.size := (by omega))); (try (have : wr.heap.size + 1 < w4.heap.size + 1 := (by omega))); (try (have : wr.heap.size + 1 < w4.heap.size + 1 + 1 := (by omega))); (try (have : wr.heap.size + 1 + 1 < w4.heap.size := (by omega))); (try (have : wr.heap.size + 1 + 1 < w4.heap.size + 1 := (by omega))); (try (have : wr.heap.size + 1 + 1 < w4.heap.size + 1 + 1 := (by omega))); (try (have : wr.heap.size + 1 + 1 + 1 < w4.heap.size := (by omega))); (try (have : wr.heap.size + 1 + 1 + 1 < w4.heap.size + 1 := (by omega))); (try (have : wr.heap.size + 1 + 1 + 1 < w4.heap.size + 1 + 1 := (by omega)))) | (go_at_call 33; refine (HF.out _ (HM.out.below (B := w.heap.size) (by repeat' first | with_reducible exact Below.refl _ _ | with_reducible assumption | with_reducible refine Free.Grow.alloc ?_ _ | with_reducible refine Free.Grow.setCell ?_ (by first | omega | (simp; done) | (simp; omega)) _ | with_reducible refine Free.Grow.drew ?_ | with_reducible refine Free.Grow.trans ?_ (by assumption)) hbw) (by first | omega | (simp; done) | (simp; omega))).mono ?_; rintro e w5 ⟨rfl, hb5⟩; have hc5 := (Free.cells_of hb5).1; have hf5 := (Free.cells_of hb5).2; have hz5 := hb5.size; (try simp only [World.size_alloc, World.size_setCell, World.size_drew] at hz5); (try (have : w.heap.size < w5.heap.size := (by omega))); (try (have : w.heap.size < w5.heap.size + 1 := (by omega))); (try (have : w.heap.size < w5.heap.size + 1 + 1 := (by omega))); (try (have : w.heap.size + 1 < w5.heap.size := (by omega))); (try (have : w.heap.size + 1 < w5.heap.size + 1 := (by omega))); (try (have : w.heap.size + 1 < w5.heap.size + 1 + 1 := (by omega))); (try (have : w.heap.size + 1 + 1 < w5.heap.size := (by omega))); (try (have : w.heap.size + 1 + 1 < w5.heap.size + 1 := (by omega))); (try (have : w.heap.size + 1 + 1 < w5.heap.size + 1 + 1 := (by omega))); (try (have : w.heap.size + 1 + 1 + 1 < w5.heap.size := (by omega))); (try (have : w.heap.size + 1 + 1 + 1 < w5.heap.size + 1 := (by omega))); (try (have : w.heap.size + 1 + 1 + 1 < w5.heap.size + 1 + 1 := (by omega))); (try (have : wr.heap.size < w5.heap.size := (by omega))); (try (have : wr.heap.size < w5.heap.size + 1 := (by omega))); (try (have : wr.heap.size < w5.heap.size + 1 + 1 := (by omega))); (try (have : wr.heap.size + 1 < w5.heap.size := (by omega))); (try (have : wr.heap.size + 1 < w5.heap.size + 1 := (by omega))); (try (have : wr.heap.size + 1 < w5.heap.size + 1 + 1 := (by omega))); (try (have : wr.heap.size + 1 + 1 < w5.heap.size := (by omega))); (try (have : wr.heap.size + 1 + 1 < w5.heap.size + 1 := (by omega))); (try (have : wr.heap.size + 1 + 1 < w5.heap.size + 1 + 1 := (by omega))); (try (have : wr.heap.size + 1 + 1 + 1 < w5.heap.size := (by omega))); (try (have : wr.heap.size + 1 + 1 + 1 < w5.heap.size + 1 := (by omega))); (try (have : wr.heap.size + 1 + 1 + 1 < w5.heap.size + 1 + 1 := (by omega))); (try (have : w4.heap.size < w5.heap.size := (by omega))); (try (have : w4.heap.size < w5.heap.size + 1 := (by omega))); (try (have : w4.heap.size < w5.heap.size + 1 + 1 := (by omega))); (try (have : w4.heap.size + 1 < w5.heap.size := (by omega))); (try (have : w4.heap.size + 1 < w5.heap.size + 1 := (by omega))); (try (have : w4.heap.size + 1 < w5.heap.size + 1 + 1 := (by omega))); (try (have : w4.heap.size + 1 + 1 < w5.heap.size := (by omega))); (try (have : w4.heap.size + 1 + 1 < w5.heap.size + 1 := (by omega))); (try (have : w4.heap.size + 1 + 1 < w5.heap.size + 1 + 1 := (by omega))); (try (have : w4.heap.size + 1 + 1 + 1 < w5.heap.size := (by omega))); (try (have : w4.heap.size + 1 + 1 + 1 < w5.heap.size + 1 := (by omega))); (try (have : w4.heap.size + 1 + 1 + 1 < w5.heap.size + 1 + 1 := (by omega)))))
      have s2 : Hid (w5.heap[w.heap.size]? = some (.cells #[.string nm, .int .i64 bd, .slice (some ⟨b, off, none⟩) l.length cap] 24 (0, 0))) := by unfold Hid; repeat' first | with_reducible assumption | with_reducible exact Free.blk_new _ (by first | rfl | (simp; done)) | with_reducible refine Free.blk_alloc_old ?_ | with_reducible refine Free.blk_drew ?_ | with_reducible refine Free.blk_setCell_far ?_ (by first | omega | (simp; done) | (simp; omega)) _ | with_reducible apply Free.blk_setCell_to | (show Array.setIfInBounds _ _ _ = _; first | exact rfl | (simp; done)) | with_reducible refine Free.blk_below ?_ (by assumption)
      have s3 : Hid (w5.heap[w.heap.size + 1]? = some (.cells #[.int .i64 x, .int .i64 y, .int .i64 z] 26 (0, 0))) := by unfold Hid; repeat' first | with_reducible assumption | with_reducible exact Free.blk_new _ (by first | rfl | (simp; done)) | with_reducible refine Free.blk_alloc_old ?_ | with_reducible refine Free.blk_drew ?_ | with_reducible refine Free.blk_setCell_far ?_ (by first | omega | (simp; done) | (simp; omega)) _ | with_reducible apply Free.blk_setCell_to | (show Array.setIfInBounds _ _ _ = _; first | exact rfl | (simp; done)) | with_reducible refine Free.blk_below ?_ (by assumption)
      have s4 : Hid (w5.heap[w.heap.size + 1 + 1]? = some (.cells #[.int .i64 0, .int .i64 0] 44 (0, 0))) := by unfold Hid; repeat' first | with_reducible assumption | with_reducible exact Free.blk_new _ (by first | rfl | (simp; done)) | with_reducible refine Free.blk_alloc_old ?_ | with_reducible refine Free.blk_drew ?_ | with_reducible refine Free.blk_setCell_far ?_ (by first | omega | (simp; done) | (simp; omega)) _ | with_reducible apply Free.blk_setCell_to | (show Array.setIfInBounds _ _ _ = _; first | exact rfl | (simp; done)) | with_reducible refine Free.blk_below ?_ (by assumption)
      have s10 : Hid (w5.heap[w4.heap.size]? = some (.cells #[.int .i64 (rrTo g m (frstT l) bt 0).1, .int .i64 (rrTo g m (frstT l) bt 0).2] 44 (0, 0))) := by unfold Hid; simp only [rrTo_zero]; repeat' first | with_reducible assumption | with_reducible exact Free.blk_new _ (by first | rfl | (simp; done)) | with_reducible refine Free.blk_alloc_old ?_ | with_reducible refine Free.blk_drew ?_ | with_reducible refine Free.blk_setCell_far ?_ (by first | omega | (simp; done) | (simp; omega)) _ | with_reducible apply Free.blk_setCell_to | (show Array.setIfInBounds _ _ _ = _; first | exact rfl | (simp; done)) | with_reducible refine Free.blk_below ?_ (by assumption)
      have sB : Hid (Below w.heap.size w w5) := by unfold Hid; repeat' first | with_reducible exact Below.refl _ _ | with_reducible assumption | with_reducible refine Free.Grow.alloc ?_ _ | with_reducible refine Free.Grow.setCell ?_ (by first | omega | (simp; done) | (simp; omega)) _ | with_reducible refine Free.Grow.drew ?_ | with_reducible refine Free.Grow.trans ?_ (by assumption)
      have hz45 : w.heap.size + 1 + 1 < w4.heap.size := by omega
      clear k2 k3 k4 c2 c3 l2 l3 l4
      go_loopw [11] (fun t vr => ∃ j : Nat, j ≤ k ∧ t = .int .i64 (frstT l + j) ∧ Hid (Below w.heap.size w vr) ∧ Hid (vr.heap[w.heap.size]? = some (.cells #[.string nm, .int .i64 bd, .slice (some ⟨b, off, none⟩) l.length cap] 24 (0, 0))) ∧
          Hid (vr.heap[w.heap.size + 1]? = some (.cells #[.int .i64 x, .int .i64 y, .int .i64 z] 26 (0, 0))) ∧ Hid (vr.heap[w.heap.size + 1 + 1]? = some (.cells #[.int .i64 0, .int .i64 0] 44 (0, 0))) ∧
          Hid (vr.heap[w4.heap.size]? = some (.cells #[.int .i64 (rrTo g m (frstT l) bt j).1, .int .i64 (rrTo g m (frstT l) bt j).2] 44 (0, 0)))) (fun t _ => (lastT l + 1 - intOf t).toNat)
      case atStart => exact ⟨0, Nat.zero_le _, by simp, sB, s2, s3, s4, s10⟩
      case round =>
        obtain ⟨j, hj, rfl, HB2, HK2, HK3, HK4, HK10⟩ := hrel
        clear s2 s3 s4 s10 sB
        have hbv := HB2.out
        have k2 := HK2.out
        have k3 := HK3.out
        have k4 := HK4.out
        have k10 := HK10.out
        have c2 := Free.cell_of_blk k2
        have c3 := Free.cell_of_blk k3
        have c4 := Free.cell_of_blk k4
        have c10 := Free.cell_of_blk k10
        have f4 := Free.frozen_of_blk k4
        have f10 := Free.frozen_of_blk k10
        have l2 := Free.lt_of_blk k2
        have l3 := Free.lt_of_blk k3
        have l4 := Free.lt_of_blk k4
        have l10 := Free.lt_of_blk k10
        have hvr := hbv.size
        clear HK2 HK3 HK4 HK10 ht
        have HY := Lib.hid (rrTo_yes (g := g) (m := m) (a := frstT l) (b := bt) (k := j))
        have HX := Lib.hid (rrTo_no (g := g) (m := m) (a := frstT l) (b := bt) (k := j))
        by_cases hlt3 : j < k
        · have ht : frstT l + j ≤ lastT l := by have := HNN.out; omega
          have HBk' := Lib.hid (HBk.out j hlt3)
          have HSk' := Lib.hid (HSk.out j hlt3)
          have HE' := Lib.hid (HLs.out (frstT l + j))
          clear HR
          generalize rrTo g m (frstT l) bt j = r at *
          obtain ⟨r1, r2⟩ := r
          generalize bx bd l (frstT l + j) = q at *
          generalize sqHi q x y z = d at *
          generalize sqLo q x y z = d0 at *
          simp only at HY HX c10
          by_cases hc : d0 ≤ m
          · have HI := HY.out (by rw [HE'.out]; exact hc)
            have HC2 := Lib.hid hc
            clear HY HX HE' hc
            rcases tri r1 (frstT l + j) with ⟨t1, t2⟩ | ⟨t1, t2⟩ | ⟨t1, t2⟩ <;> rcases tri r2 (frstT l + j) with ⟨t3, t4⟩ | ⟨t3, t4⟩ | ⟨t3, t4⟩
            all_goals
              simp only [imn, imx, t1, t4, if_true, if_false] at HI
              have HII := Lib.hid HI
              clear HI
              go_wp2_with (go_at_call 34; refine (HL.out _ (HM.out.below (B := w.heap.size) (by repeat' first | with_reducible exact Below.refl _ _ | with_reducible assumption | with_reducible refine Free.Grow.alloc ?_ _ | with_reducible refine Free.Grow.setCell ?_ (by first | omega | (simp; done) | (simp; omega)) _ | with_reducible refine Free.Grow.drew ?_ | with_reducible refine Free.Grow.trans ?_ (by assumption)) hbw) (by first | omega | (simp; done) | (simp; omega))).mono ?_; rintro e w6 ⟨rfl, hb6⟩; have hc6 := (Free.cells_of hb6).1; have hf6 := (Free.cells_of hb6).2; have hz6 := hb6.size; (try simp only [World.size_alloc, World.size_setCell, World.size_drew] at hz6); (try (have : w.heap.size < w6.heap.size := (by omega))); (try (have : w.heap.size < w6.heap.size + 1 := (by omega))); (try (have : w.heap.size < w6.heap.size + 1 + 1 := (by omega))); (try (have : w.heap.size + 1 < w6.heap.size := (by omega))); (try (have : w.heap.size + 1 < w6.heap.size + 1 := (by omega))); (try (have : w.heap.size + 1 < w6.heap.size + 1 + 1 := (by omega))); (try (have : w.heap.size + 1 + 1 < w6.heap.size := (by omega))); (try (have : w.heap.size + 1 + 1 < w6.heap.size + 1 := (by omega))); (try (have : w.heap.size + 1 + 1 < w6.heap.size + 1 + 1 := (by omega))); (try (have : w.heap.size + 1 + 1 + 1 < w6.heap.size := (by omega))); (try (have : w.heap.size + 1 + 1 + 1 < w6.heap.size + 1 := (by omega))); (try (have : w.heap.size + 1 + 1 + 1 < w6.heap.size + 1 + 1 := (by omega))); (try (have : w4.heap.size < w6.heap.size := (by omega))); (try (have : w4.heap.size < w6.heap.size + 1 := (by omega))); (try (have : w4.heap.size < w6.heap.size + 1 + 1 := (by omega))); (try (have : w4.heap.size + 1 < w6.heap.size := (by omega))); (try (have : w4.heap.size + 1 < w6.heap.size + 1 := (by omega))); (try (have : w4.heap.size + 1 < w6.heap.size + 1 + 1 := (by omega))); (try (have : w4.heap.size + 1 + 1 < w6.heap.size := (by omega))); (try (have : w4.heap.size + 1 + 1 < w6.heap.size + 1 := (by omega))); (try (have : w4.heap.size + 1 + 1 < w6.heap.size + 1 + 1 := (by omega))); (try (have : w4.heap.size + 1 + 1 + 1 < w6.heap.size := (by omega))); (try (have : w4.heap.size + 1 + 1 + 1 < w6.heap.size + 1 := (by omega))); (try (have : w4.heap.size + 1 + 1 + 1 < w6.heap.size + 1 + 1 := (by omega))); (try (have : vr.heap.size < w6.heap.size := (by omega))); (try (have : vr.heap.size < w6.heap.size + 1 := (by omega))); (try (have : vr.heap.size < w6.heap.size + 1 + 1 := (by omega))); (try (have : vr.heap.size + 1 < w6.heap.size := (by omega))); (try (have : vr.heap.size + 1 < w6.heap.size + 1 := (by omega))); (try (have : vr.heap.size + 1 < w6.heap.size + 1 + 1 := (by omega))); (try (have : vr.heap.size + 1 + 1 < w6.heap.size := (by omega))); (try (have : vr.heap.size + 1 + 1 < w6.heap.size + 1 := (by omega))); (try (have : vr.heap.size + 1 + 1 < w6.heap.size + 1 + 1 := (by omega))); (try (have : vr.heap.size + 1 + 1 + 1 < w6.heap.size := (by omega))); (try (have : vr.heap.size + 1 + 1 + 1 < w6.heap.size + 1 := (by omega))); (try (have : vr.heap.size + 1 + 1 + 1 < w6.heap.size + 1 + 1 := (by omega))))
              refine Free.wp_region 8 #[0, 0, 3, 0, 15, 31, 0, 127] (by kernel_rfl) (by kernel_rfl) ?_
              simp only [List.take_succ_cons, List.take_zero]
              iterate 8
                refine Free.E.q (by rfl) ?_
                apply Exists.intro
                refine ⟨fun u w' hc hb => ?_, ?_⟩
                go_simp
                (try go_ints); (try simp only [Ob.ite_imx, Ob.ite_imn]); first | exact rfl | (go_simp; exact rfl) | ((go_at_call 30; with_reducible exact HBk'.out _ (HM.out.below (B := w.heap.size) (by repeat' first | with_reducible exact Below.refl _ _ | with_reducible assumption | with_reducible refine Free.Grow.alloc ?_ _ | with_reducible refine Free.Grow.setCell ?_ (by first | omega | (simp; done) | (simp; omega)) _ | with_reducible refine Free.Grow.drew ?_ | with_reducible refine Free.Grow.trans ?_ (by assumption)) hbw) (by have := hb.size; omega))) | ((go_at_call 41; with_reducible exact HSk'.out _)) | (simp only [↓IntWalk.iteOmega]; (try go_simp); exact rfl)
                simp only [Act.put, List.setIfInBounds_toArray, List.set_cons_zero, List.set_cons_succ, List.nil_append, List.cons_append]
              refine Free.E.nil (fun u w7 S hF => ?_)
              have hb7 := hF.below
              clear hF
              have hc7 := (Free.cells_of hb7).1
              have hf7 := (Free.cells_of hb7).2
              have hz7 := hb7.size
              try simp only [World.size_alloc, World.size_setCell, World.size_drew] at hz7
              (try (have : w.heap.size < w7.heap.size := (by omega)))
              (try (have : w.heap.size < w7.heap.size + 1 := (by omega)))
              (try (have : w.heap.size < w7.heap.size + 1 + 1 := (by omega)))
              (try (have : w.heap.size + 1 < w7.heap.size := (by omega)))
              (try (have : w.heap.size + 1 < w7.heap.size + 1 := (by omega)))
              (try (have : w.heap.size + 1 < w7.heap.size + 1 + 1 := (by omega)))
              (try (have : w.heap.size + 1 + 1 < w7.heap.size := (by omega)))
              (try (have : w.heap.size + 1 + 1 < w7.heap.size + 1 := (by omega)))
              (try (have : w.heap.size + 1 + 1 < w7.heap.size + 1 + 1 := (by omega)))
              (try (have : w.heap.size + 1 + 1 + 1 < w7.heap.size := (by omega)))
              (try (have : w.heap.size + 1 + 1 + 1 < w7.heap.size + 1 := (by omega)))
              (try (have : w.heap.size + 1 + 1 + 1 < w7.heap.size + 1 + 1 := (by omega)))
              (try (have : w4.heap.size < w7.heap.size := (by omega)))
              (try (have : w4.heap.size < w7.heap.size + 1 := (by omega)))
              (try (have : w4.heap.size < w7.heap.size + 1 + 1 := (by omega)))
              (try (have : w4.heap.size + 1 < w7.heap.size := (by omega)))
              (try (have : w4.heap.size + 1 < w7.heap.size + 1 := (by omega)))
              (try (have : w4.heap.size + 1 < w7.heap.size + 1 + 1 := (by omega)))
              (try (have : w4.heap.size + 1 + 1 < w7.heap.size := (by omega)))
              (try (have : w4.heap.size + 1 + 1 < w7.heap.size + 1 := (by omega)))
              (try (have : w4.heap.size + 1 + 1 < w7.heap.size + 1 + 1 := (by omega)))
              (try (have : w4.heap.size + 1 + 1 + 1 < w7.heap.size := (by omega)))
              (try (have : w4.heap.size + 1 + 1 + 1 < w7.heap.size + 1 := (by omega)))
              (try (have : w4.heap.size + 1 + 1 + 1 < w7.heap.size + 1 + 1 := (by omega)))
              (try (have : vr.heap.size < w7.heap.size := (by omega)))
              (try (have : vr.heap.size < w7.heap.size + 1 := (by omega)))
              (try (have : vr.heap.size < w7.heap.size + 1 + 1 := (by omega)))
              (try (have : vr.heap.size + 1 < w7.heap.size := (by omega)))
              (try (have : vr.heap.size + 1 < w7.heap.size + 1 := (by omega)))
              (try (have : vr.heap.size + 1 < w7.heap.size + 1 + 1 := (by omega)))
              (try (have : vr.heap.size + 1 + 1 < w7.heap.size := (by omega)))
              (try (have : vr.heap.size + 1 + 1 < w7.heap.size + 1 := (by omega)))
              (try (have : vr.heap.size + 1 + 1 < w7.heap.size + 1 + 1 := (by omega)))
              (try (have : vr.heap.size + 1 + 1 + 1 < w7.heap.size := (by omega)))
              (try (have : vr.heap.size + 1 + 1 + 1 < w7.heap.size + 1 := (by omega)))
              (try (have : vr.heap.size + 1 + 1 + 1 < w7.heap.size + 1 + 1 := (by omega)))
              (try (have : w6.heap.size < w7.heap.size := (by omega)))
              (try (have : w6.heap.size < w7.heap.size + 1 := (by omega)))
              (try (have : w6.heap.size < w7.heap.size + 1 + 1 := (by omega)))
              (try (have : w6.heap.size + 1 < w7.heap.size := (by omega)))
              (try (have : w6.heap.size + 1 < w7.heap.size + 1 := (by omega)))
              (try (have : w6.heap.size + 1 < w7.heap.size + 1 + 1 := (by omega)))
              (try (have : w6.heap.size + 1 + 1 < w7.heap.size := (by omega)))
              (try (have : w6.heap.size + 1 + 1 < w7.heap.size + 1 := (by omega)))
              (try (have : w6.heap.size + 1 + 1 < w7.heap.size + 1 + 1 := (by omega)))
              (try (have : w6.heap.size + 1 + 1 + 1 < w7.heap.size := (by omega)))
              (try (have : w6.heap.size + 1 + 1 + 1 < w7.heap.size + 1 := (by omega)))
              (try (have : w6.heap.size + 1 + 1 + 1 < w7.heap.size + 1 + 1 := (by omega)))
              simp only [List.drop_succ_cons, List.drop_zero, List.drop_nil]
              have hc := HC2.out
              go_wp2
              go_roundw
              case rel => exact ⟨j + 1, by omega, by go_num, Lib.hid (by repeat' first | with_reducible exact Below.refl _ _ | with_reducible assumption | with_reducible refine Free.Grow.alloc ?_ _ | with_reducible refine Free.Grow.setCell ?_ (by first | omega | (simp; done) | (simp; omega)) _ | with_reducible refine Free.Grow.drew ?_ | with_reducible refine Free.Grow.trans ?_ (by assumption)), Lib.hid (by repeat' first | with_reducible assumption | with_reducible exact Free.blk_new _ (by first | rfl | (simp; done)) | with_reducible refine Free.blk_alloc_old ?_ | with_reducible refine Free.blk_drew ?_ | with_reducible refine Free.blk_setCell_far ?_ (by first | omega | (simp; done) | (simp; omega)) _ | with_reducible apply Free.blk_setCell_to | (show Array.setIfInBounds _ _ _ = _; first | exact rfl | (simp; done)) | with_reducible refine Free.blk_below ?_ (by assumption)), Lib.hid (by repeat' first | with_reducible assumption | with_reducible exact Free.blk_new _ (by first | rfl | (simp; done)) | with_reducible refine Free.blk_alloc_old ?_ | with_reducible refine Free.blk_drew ?_ | with_reducible refine Free.blk_setCell_far ?_ (by first | omega | (simp; done) | (simp; omega)) _ | with_reducible apply Free.blk_setCell_to | (show Array.setIfInBounds _ _ _ = _; first | exact rfl | (simp; done)) | with_reducible refine Free.blk_below ?_ (by assumption)), Lib.hid (by repeat' first | with_reducible assumption | with_reducible exact Free.blk_new _ (by first | rfl | (simp; done)) | with_reducible refine Free.blk_alloc_old ?_ | with_reducible refine Free.blk_drew ?_ | with_reducible refine Free.blk_setCell_far ?_ (by first | omega | (simp; done) | (simp; omega)) _ | with_reducible apply Free.blk_setCell_to | (show Array.setIfInBounds _ _ _ = _; first | exact rfl | (simp; done)) | with_reducible refine Free.blk_below ?_ (by assumption)), by unfold Hid; simp only [HII.out]; repeat' first | with_reducible assumption | with_reducible exact Free.blk_new _ (by first | rfl | (simp; done)) | with_reducible refine Free.blk_alloc_old ?_ | with_reducible refine Free.blk_drew ?_ | with_reducible refine Free.blk_setCell_far ?_ (by first | omega | (simp; done) | (simp; omega)) _ | with_reducible apply Free.blk_setCell_to | (show Array.setIfInBounds _ _ _ = _; first | exact rfl | (simp; done)) | with_reducible refine Free.blk_below ?_ (by assumption)⟩
              case measure => simp [intOf]; omega
          · have HI := Lib.hid (HX.out (by rw [HE'.out]; exact hc))
            have HC2 := Lib.hid hc
            clear HY HX HE' hc
            go_wp2_with (go_at_call 34; refine (HL.out _ (HM.out.below (B := w.heap.size) (by repeat' first | with_reducible exact Below.refl _ _ | with_reducible assumption | with_reducible refine Free.Grow.alloc ?_ _ | with_reducible refine Free.Grow.setCell ?_ (by first | omega | (simp; done) | (simp; omega)) _ | with_reducible refine Free.Grow.drew ?_ | with_reducible refine Free.Grow.trans ?_ (by assumption)) hbw) (by first | omega | (simp; done) | (simp; omega))).mono ?_; rintro e w6 ⟨rfl, hb6⟩; have hc6 := (Free.cells_of hb6).1; have hf6 := (Free.cells_of hb6).2; have hz6 := hb6.size; (try simp only [World.size_alloc, World.size_setCell, World.size_drew] at hz6); (try (have : w.heap.size < w6.heap.size := (by omega))); (try (have : w.heap.size < w6.heap.size + 1 := (by omega))); (try (have : w.heap.size < w6.heap.size + 1 + 1 := (by omega))); (try (have : w.heap.size + 1 < w6.heap.size := (by omega))); (try (have : w.heap.size + 1 < w6.heap.size + 1 := (by omega))); (try (have : w.heap.size + 1 < w6.heap.size + 1 + 1 := (by omega))); (try (have : w.heap.size + 1 + 1 < w6.heap.size := (by omega))); (try (have : w.heap.size + 1 + 1 < w6.heap.size + 1 := (by omega))); (try (have : w.heap.size + 1 + 1 < w6.heap.size + 1 + 1 := (by omega))); (try (have : w.heap.size + 1 + 1 + 1 < w6.heap.size := (by omega))); (try (have : w.heap.size + 1 + 1 + 1 < w6.heap.size + 1 := (by omega))); (try (have : w.heap.size + 1 + 1 + 1 < w6.heap.size + 1 + 1 := (by omega))); (try (have : w4.heap.size < w6.heap.size := (by omega))); (try (have : w4.heap.size < w6.heap.size + 1 := (by omega))); (try (have : w4.heap.size < w6.heap.size + 1 + 1 := (by omega))); (try (have : w4.heap.size + 1 < w6.heap.size := (by omega))); (try (have : w4.heap.size + 1 < w6.heap.size + 1 := (by omega))); (try (have : w4.heap.size + 1 < w6.heap.size + 1 + 1 := (by omega))); (try (have : w4.heap.size + 1 + 1 < w6.heap.size := (by omega))); (try (have : w4.heap.size + 1 + 1 < w6.heap.size + 1 := (by omega))); (try (have : w4.heap.size + 1 + 1 < w6.heap.size + 1 + 1 := (by omega))); (try (have : w4.heap.size + 1 + 1 + 1 < w6.heap.size := (by omega))); (try (have : w4.heap.size + 1 + 1 + 1 < w6.heap.size + 1 := (by omega))); (try (have : w4.heap.size + 1 + 1 + 1 < w6.heap.size + 1 + 1 := (by omega))); (try (have : vr.heap.size < w6.heap.size := (by omega))); (try (have : vr.heap.size < w6.heap.size + 1 := (by omega))); (try (have : vr.heap.size < w6.heap.size + 1 + 1 := (by omega))); (try (have : vr.heap.size + 1 < w6.heap.size := (by omega))); (try (have : vr.heap.size + 1 < w6.heap.size + 1 := (by omega))); (try (have : vr.heap.size + 1 < w6.heap.size + 1 + 1 := (by omega))); (try (have : vr.heap.size + 1 + 1 < w6.heap.size := (by omega))); (try (have : vr.heap.size + 1 + 1 < w6.heap.size + 1 := (by omega))); (try (have : vr.heap.size + 1 + 1 < w6.heap.size + 1 + 1 := (by omega))); (try (have : vr.heap.size + 1 + 1 + 1 < w6.heap.size := (by omega))); (try (have : vr.heap.size + 1 + 1 + 1 < w6.heap.size + 1 := (by omega))); (try (have : vr.heap.size + 1 + 1 + 1 < w6.heap.size + 1 + 1 := (by omega))))
            refine Free.wp_region 8 #[0, 0, 3, 0, 15, 31, 0, 127] (by kernel_rfl) (by kernel_rfl) ?_
            simp only [List.take_succ_cons, List.take_zero]
            iterate 8
              refine Free.E.q (by rfl) ?_
              apply Exists.intro
              refine ⟨fun u w' hc hb => ?_, ?_⟩
              go_simp
              (try go_ints); (try simp only [Ob.ite_imx, Ob.ite_imn]); first | exact rfl | (go_simp; exact rfl) | ((go_at_call 30; with_reducible exact HBk'.out _ (HM.out.below (B := w.heap.size) (by repeat' first | with_reducible exact Below.refl _ _ | with_reducible assumption | with_reducible refine Free.Grow.alloc ?_ _ | with_reducible refine Free.Grow.setCell ?_ (by first | omega | (simp; done) | (simp; omega)) _ | with_reducible refine Free.Grow.drew ?_ | with_reducible refine Free.Grow.trans ?_ (by assumption)) hbw) (by have := hb.size; omega))) | ((go_at_call 41; with_reducible exact HSk'.out _)) | (simp only [↓IntWalk.iteOmega]; (try go_simp); exact rfl)
              simp only [Act.put, List.setIfInBounds_toArray, List.set_cons_zero, List.set_cons_succ, List.nil_append, List.cons_append]
            refine Free.E.nil (fun u w7 S hF => ?_)
            have hb7 := hF.below
            clear hF
            have hc7 := (Free.cells_of hb7).1
            have hf7 := (Free.cells_of hb7).2
            have hz7 := hb7.size
            try simp only [World.size_alloc, World.size_setCell, World.size_drew] at hz7
            (try (have : w.heap.size < w7.heap.size := (by omega)))
            (try (have : w.heap.size < w7.heap.size + 1 := (by omega)))
            (try (have : w.heap.size < w7.heap.size + 1 + 1 := (by omega)))
            (try (have : w.heap.size + 1 < w7.heap.size := (by omega)))
            (try (have : w.heap.size + 1 < w7.heap.size + 1 := (by omega)))
            (try (have : w.heap.size + 1 < w7.heap.size + 1 + 1 := (by omega)))
            (try (have : w.heap.size + 1 + 1 < w7.heap.size := (by omega)))
            (try (have : w.heap.size + 1 + 1 < w7.heap.size + 1 := (by omega)))
            (try (have : w.heap.size + 1 + 1 < w7.heap.size + 1 + 1 := (by omega)))
            (try (have : w.heap.size + 1 + 1 + 1 < w7.heap.size := (by omega)))
            (try (have : w.heap.size + 1 + 1 + 1 < w7.heap.size + 1 := (by omega)))
            (try (have : w.heap.size + 1 + 1 + 1 < w7.heap.size + 1 + 1 := (by omega)))
            (try (have : w4.heap.size < w7.heap.size := (by omega)))
            (try (have : w4.heap.size < w7.heap.size + 1 := (by omega)))
            (try (have : w4.heap.size < w7.heap.size + 1 + 1 := (by omega)))
            (try (have : w4.heap.size + 1 < w7.heap.size := (by omega)))
            (try (have : w4.heap.size + 1 < w7.heap.size + 1 := (by omega)))
            (try (have : w4.heap.size + 1 < w7.heap.size + 1 + 1 := (by omega)))
            (try (have : w4.heap.size + 1 + 1 < w7.heap.size := (by omega)))
            (try (have : w4.heap.size + 1 + 1 < w7.heap.size + 1 := (by omega)))
            (try (have : w4.heap.size + 1 + 1 < w7.heap.size + 1 + 1 := (by omega)))
            (try (have : w4.heap.size + 1 + 1 + 1 < w7.heap.size := (by omega)))
            (try (have : w4.heap.size + 1 + 1 + 1 < w7.heap.size + 1 := (by omega)))
            (try (have : w4.heap.size + 1 + 1 + 1 < w7.heap.size + 1 + 1 := (by omega)))
            (try (have : vr.heap.size < w7.heap.size := (by omega)))
            (try (have : vr.heap.size < w7.heap.size + 1 := (by omega)))
            (try (have : vr.heap.size < w7.heap.size + 1 + 1 := (by omega)))
            (try (have : vr.heap.size + 1 < w7.heap.size := (by omega)))
            (try (have : vr.heap.size + 1 < w7.heap.size + 1 := (by omega)))
            (try (have : vr.heap.size + 1 < w7.heap.size + 1 + 1 := (by omega)))
            (try (have : vr.heap.size + 1 + 1 < w7.heap.size := (by omega)))
            (try (have : vr.heap.size + 1 + 1 < w7.heap.size + 1 := (by omega)))
            (try (have : vr.heap.size + 1 + 1 < w7.heap.size + 1 + 1 := (by omega)))
            (try (have : vr.heap.size + 1 + 1 + 1 < w7.heap.size := (by omega)))
            (try (have : vr.heap.size + 1 + 1 + 1 < w7.heap.size + 1 := (by omega)))
            (try (have : vr.heap.size + 1 + 1 + 1 < w7.heap.size + 1 + 1 := (by omega)))
            (try (have : w6.heap.size < w7.heap.size := (by omega)))
            (try (have : w6.heap.size < w7.heap.size + 1 := (by omega)))
            (try (have : w6.heap.size < w7.heap.size + 1 + 1 := (by omega)))
            (try (have : w6.heap.size + 1 < w7.heap.size := (by omega)))
            (try (have : w6.heap.size + 1 < w7.heap.size + 1 := (by omega)))
            (try (have : w6.heap.size + 1 < w7.heap.size + 1 + 1 := (by omega)))
            (try (have : w6.heap.size + 1 + 1 < w7.heap.size := (by omega)))
            (try (have : w6.heap.size + 1 + 1 < w7.heap.size + 1 := (by omega)))
            (try (have : w6.heap.size + 1 + 1 < w7.heap.size + 1 + 1 := (by omega)))
            (try (have : w6.heap.size + 1 + 1 + 1 < w7.heap.size := (by omega)))
            (try (have : w6.heap.size + 1 + 1 + 1 < w7.heap.size + 1 := (by omega)))
            (try (have : w6.heap.size + 1 + 1 + 1 < w7.heap.size + 1 + 1 := (by omega)))
            simp only [List.drop_succ_cons, List.drop_zero, List.drop_nil]
            have hc := HC2.out
            go_wp2
            go_roundw
            case rel => exact ⟨j + 1, by omega, by go_num, Lib.hid (by repeat' first | with_reducible exact Below.refl _ _ | with_reducible assumption | with_reducible refine Free.Grow.alloc ?_ _ | with_reducible refine Free.Grow.setCell ?_ (by first | omega | (simp; done) | (simp; omega)) _ | with_reducible refine Free.Grow.drew ?_ | with_reducible refine Free.Grow.trans ?_ (by assumption)), Lib.hid (by repeat' first | with_reducible assumption | with_reducible exact Free.blk_new _ (by first | rfl | (simp; done)) | with_reducible refine Free.blk_alloc_old ?_ | with_reducible refine Free.blk_drew ?_ | with_reducible refine Free.blk_setCell_far ?_ (by first | omega | (simp; done) | (simp; omega)) _ | with_reducible apply Free.blk_setCell_to | (show Array.setIfInBounds _ _ _ = _; first | exact rfl | (simp; done)) | with_reducible refine Free.blk_below ?_ (by assumption)), Lib.hid (by repeat' first | with_reducible assumption | with_reducible exact Free.blk_new _ (by first | rfl | (simp; done)) | with_reducible refine Free.blk_alloc_old ?_ | with_reducible refine Free.blk_drew ?_ | with_reducible refine Free.blk_setCell_far ?_ (by first | omega | (simp; done) | (simp; omega)) _ | with_reducible apply Free.blk_setCell_to | (show Array.setIfInBounds _ _ _ = _; first | exact rfl | (simp; done)) | with_reducible refine Free.blk_below ?_ (by assumption)), Lib.hid (by repeat' first | with_reducible assumption | with_reducible exact Free.blk_new _ (by first | rfl | (simp; done)) | with_reducible refine Free.blk_alloc_old ?_ | with_reducible refine Free.blk_drew ?_ | with_reducible refine Free.blk_setCell_far ?_ (by first | omega | (simp; done) | (simp; omega)) _ | with_reducible apply Free.blk_setCell_to | (show Array.setIfInBounds _ _ _ = _; first | exact rfl | (simp; done)) | with_reducible refine Free.blk_below ?_ (by assumption)), by unfold Hid; simp only [HI.out]; repeat' first | with_reducible assumption | with_reducible exact Free.blk_new _ (by first | rfl | (simp; done)) | with_reducible refine Free.blk_alloc_old ?_ | with_reducible refine Free.blk_drew ?_ | with_reducible refine Free.blk_setCell_far ?_ (by first | omega | (simp; done) | (simp; omega)) _ | with_reducible apply Free.blk_setCell_to | (show Array.setIfInBounds _ _ _ = _; first | exact rfl | (simp; done)) | with_reducible refine Free.blk_below ?_ (by assumption)⟩
            case measure => simp [intOf]; omega
        · obtain rfl : j = k := by omega
          have ht : ¬ frstT l + j ≤ lastT l := by have := HNN.out; omega
          clear HY HX
          generalize rrTo g m (frstT l) bt j = r at *
          obtain ⟨r1, r2⟩ := r
          simp only at HR c10 k10
          go_wp2_with (go_at_call 34; refine (HL.out _ (HM.out.below (B := w.heap.size) (by repeat' first | with_reducible exact Below.refl _ _ | with_reducible assumption | with_reducible refine Free.Grow.alloc ?_ _ | with_reducible refine Free.Grow.setCell ?_ (by first | omega | (simp; done) | (simp; omega)) _ | with_reducible refine Free.Grow.drew ?_ | with_reducible refine Free.Grow.trans ?_ (by assumption)) hbw) (by first | omega | (simp; done) | (simp; omega))).mono ?_; rintro e w6 ⟨rfl, hb6⟩; have hc6 := (Free.cells_of hb6).1; have hf6 := (Free.cells_of hb6).2; have hz6 := hb6.size; (try simp only [World.size_alloc, World.size_setCell, World.size_drew] at hz6); (try (have : w.heap.size < w6.heap.size := (by omega))); (try (have : w.heap.size < w6.heap.size + 1 := (by omega))); (try (have : w.heap.size < w6.heap.size + 1 + 1 := (by omega))); (try (have : w.heap.size + 1 < w6.heap.size := (by omega))); (try (have : w.heap.size + 1 < w6.heap.size + 1 := (by omega))); (try (have : w.heap.size + 1 < w6.heap.size + 1 + 1 := (by omega))); (try (have : w.heap.size + 1 + 1 < w6.heap.size := (by omega))); (try (have : w.heap.size + 1 + 1 < w6.heap.size + 1 := (by omega))); (try (have : w.heap.size + 1 + 1 < w6.heap.size + 1 + 1 := (by omega))); (try (have : w.heap.size + 1 + 1 + 1 < w6.heap.size := (by omega))); (try (have : w.heap.size + 1 + 1 + 1 < w6.heap.size + 1 := (by omega))); (try (have : w.heap.size + 1 + 1 + 1 < w6.heap.size + 1 + 1 := (by omega))); (try (have : w4.heap.size < w6.heap.size := (by omega))); (try (have : w4.heap.size < w6.heap.size + 1 := (by omega))); (try (have : w4.heap.size < w6.heap.size + 1 + 1 := (by omega))); (try (have : w4.heap.size + 1 < w6.heap.size := (by omega))); (try (have : w4.heap.size + 1 < w6.heap.size + 1 := (by omega))); (try (have : w4.heap.size + 1 < w6.heap.size + 1 + 1 := (by omega))); (try (have : w4.heap.size + 1 + 1 < w6.heap.size := (by omega))); (try (have : w4.heap.size + 1 + 1 < w6.heap.size + 1 := (by omega))); (try (have : w4.heap.size + 1 + 1 < w6.heap.size + 1 + 1 := (by omega))); (try (have : w4.heap.size + 1 + 1 + 1 < w6.heap.size := (by omega))); (try (have : w4.heap.size + 1 + 1 + 1 < w6.heap.size + 1 := (by omega))); (try (have : w4.heap.size + 1 + 1 + 1 < w6.heap.size + 1 + 1 := (by omega))); (try (have : vr.heap.size < w6.heap.size := (by omega))); (try (have : vr.heap.size < w6.heap.size + 1 := (by omega))); (try (have : vr.heap.size < w6.heap.size + 1 + 1 := (by omega))); (try (have : vr.heap.size + 1 < w6.heap.size := (by omega))); (try (have : vr.heap.size + 1 < w6.heap.size + 1 := (by omega))); (try (have : vr.heap.size + 1 < w6.heap.size + 1 + 1 := (by omega))); (try (have : vr.heap.size + 1 + 1 < w6.heap.size := (by omega))); (try (have : vr.heap.size + 1 + 1 < w6.heap.size + 1 := (by omega))); (try (have : vr.heap.size + 1 + 1 < w6.heap.size + 1 + 1 := (by omega))); (try (have : vr.heap.size + 1 + 1 + 1 < w6.heap.size := (by omega))); (try (have : vr.heap.size + 1 + 1 + 1 < w6.heap.size + 1 := (by omega))); (try (have : vr.heap.size + 1 + 1 + 1 < w6.heap.size + 1 + 1 := (by omega))))
          refine bodyPost_ret (v := .tuple #[.agg #[.int .i64 r1, .int .i64 r2], .int .i64 bt]) (by simp [results, Try.results52, go_sem, *]) rfl ?_
          exact HR.out _ (by repeat' first | with_reducible exact Below.refl _ _ | with_reducible assumption | with_reducible refine Free.Grow.alloc ?_ _ | with_reducible refine Free.Grow.setCell ?_ (by first | omega | (simp; done) | (simp; omega)) _ | with_reducible refine Free.Grow.drew ?_ | with_reducible refine Free.Grow.trans ?_ (by assumption))
end Go.Proofs.Ytaoennekamlfeaa
