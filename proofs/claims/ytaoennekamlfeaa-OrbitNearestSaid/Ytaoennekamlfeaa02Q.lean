/- Chapter 2: Nearest and MayBeNearest of the reference. -/
import Derived.Test.Ytaoennekamlfeaa02O
set_option linter.unusedSimpArgs false
set_option linter.unusedVariables false
namespace Go.Proofs.Ytaoennekamlfeaa
open Go.RowKit Go.Ob

theorem mx1 (k : Nat) : max k 1 = if k = 0 then 1 else k := by split <;> omega
theorem nearTo_one {f : Int → Int} {a : Int} : nearTo f a 1 = (a, f a) := by
  have := nearTo_yes (f := f) (a := a) (k := 0) (.inl (by simp [nearTo]))
  simpa using this
theorem nx_yes {f : Int → Int} {a : Int} {k : Nat} (h : f (a + k) < (nearTo f a (max k 1)).2) : nearTo f a (max (k + 1) 1) = (a + k, f (a + k)) := by
  by_cases e : k = 0
  · subst e; rw [show max 0 1 = 1 from rfl, nearTo_one] at h; simp at h
  · rw [show max k 1 = k by omega] at h
    rw [show max (k + 1) 1 = k + 1 by omega]
    exact nearTo_yes (.inr h)
theorem nx_no {f : Int → Int} {a : Int} {k : Nat} (h : ¬ f (a + k) < (nearTo f a (max k 1)).2) (h0 : 0 ≤ (nearTo f a (max k 1)).2) : nearTo f a (max (k + 1) 1) = nearTo f a (max k 1) := by
  by_cases e : k = 0
  · subst e; rfl
  · rw [show max k 1 = k by omega] at h h0 ⊢
    rw [show max (k + 1) 1 = k + 1 by omega]
    exact nearTo_no (by omega)

set_option maxRecDepth 100000 in
set_option maxHeartbeats 4000000 in
theorem rNearest_any (nm : ByteArray) (bd x y z : Int) (b off cap : Nat) (l : List St) (w : World) (hR : Right bd l) (hS : HasSts w b off l) (hbw : b < w.heap.size)
    (hx : -100000000 ≤ x ∧ x ≤ 100000000) (hy : -100000000 ≤ y ∧ y ≤ 100000000) (hz : -100000000 ≤ z ∧ z ≤ 100000000) :
    Calls Try.prog 51 #[obV nm bd (some ⟨b, off, none⟩) l.length cap, v3 x y z] w fun e w' => e = .returned (.tuple #[.int .i64 (nearTo (nsq l x y z) (frstT l) (nTicks l)).1, .int .i64 (nearTo (nsq l x y z) (frstT l) (nTicks l)).2]) ∧ Below w.heap.size w w' := by
  have hn2 := hR.n2
  have hn40 := hR.n40
  have hfl : frstT l ≤ lastT l := hR.le 0 (l.length - 1) (by omega) (by omega)
  have ht0 : 0 ≤ frstT l := (hR.ok 0 (by omega)).t0
  have ht1 : lastT l ≤ 1000000000 := (hR.ok (l.length - 1) (by omega)).t1
  have HNN : Hid ((nTicks l : Int) = lastT l + 1 - frstT l) := by unfold nTicks; show _ = _; omega
  have HF := Lib.hid (fun w' (hS' : HasSts w' b off l) (hb' : b < w'.heap.size) => First_any nm bd b off cap l w' hS' hb' (by omega) (by omega))
  have HL := Lib.hid (fun w' (hS' : HasSts w' b off l) (hb' : b < w'.heap.size) => Last_any nm bd b off cap l w' hS' hb' (by omega) (by omega))
  have HNf := Lib.hid (fun w' (hS' : HasSts w' b off l) (hb' : b < w'.heap.size) => (same_place hR (t := frstT l) (by omega) (by omega)).1 ▸ rNominal_any nm bd (frstT l) b off cap l w' hR (by omega) (by omega) hS' hb')
  have HNk := Lib.hid (fun (k : Nat) (hk : k < nTicks l) w' (hS' : HasSts w' b off l) (hb' : b < w'.heap.size) => (same_place hR (t := frstT l + k) (by omega) (by have := HNN.out; omega)).1 ▸ rNominal_any nm bd (frstT l + k) b off cap l w' hR (by omega) (by have := HNN.out; omega) hS' hb')
  have HND := Lib.hid (fun (k : Nat) (hk : k < nTicks l) => dsq_bd (nom_bd hR (t := frstT l + k) (by omega) (by have := HNN.out; omega)) hx hy hz)
  have HNB := Lib.hid (fun (k : Nat) (hk : k < nTicks l) => nom_bd hR (t := frstT l + k) (by omega) (by have := HNN.out; omega))
  have HMin := Lib.hid (nearTo_min (f := nsq l x y z) (a := frstT l) (N := nTicks l) (fun k hk => by have := HND.out k hk; unfold nsq dsq; omega))
  have nb := nom_bd hR (t := frstT l) (by omega) (by omega)
  have hSq0 := Lib.hid (fun w => rSquare_any (nom l (frstT l)).x (nom l (frstT l)).y (nom l (frstT l)).z x y z w (by omega) (by omega) (by omega))
  have hSqk := Lib.hid (fun (k : Nat) (hk : k < nTicks l) w => rSquare_any (nom l (frstT l + k)).x (nom l (frstT l + k)).y (nom l (frstT l + k)).z x y z w (by have := HNB.out k hk; omega) (by have := HNB.out k hk; omega) (by have := HNB.out k hk; omega))
  have h1 : nearTo (nsq l x y z) (frstT l) (max 0 1) = (frstT l, ((nom l (frstT l)).x - x) * ((nom l (frstT l)).x - x) + ((nom l (frstT l)).y - y) * ((nom l (frstT l)).y - y) + ((nom l (frstT l)).z - z) * ((nom l (frstT l)).z - z)) := nearTo_one
  have H1 := Lib.hid h1
  have HE : Hid (∀ t, nsq l x y z t = ((nom l t).x - x) * ((nom l t).x - x) + ((nom l t).y - y) * ((nom l t).y - y) + ((nom l t).z - z) * ((nom l t).z - z)) := fun t => rfl
  have HM := Lib.hid hS
  have hN1 : max (nTicks l) 1 = nTicks l := by have := HNN.out; omega
  clear hS hR h1 nb
  rw [← hN1]
  clear hN1
  generalize nsq l x y z = f at *
  generalize nTicks l = N at *
  refine Calls.made fun R HR => ?_
  go_enter Try.func51, Try.ntmps51
  go_wp2
  generalize nom l (frstT l) = p at *
  obtain ⟨px, py, pz⟩ := p
  simp only [p3V] at HNf hSq0 H1
  refine Free.wp_region 10 #[0, 1, 0, 0, 11, 31, 0, 127, 255, 511] (by kernel_rfl) (by kernel_rfl) ?_
  simp only [List.take_succ_cons, List.take_zero]
  iterate 10
    refine Free.E.q (by rfl) ?_
    apply Exists.intro
    refine ⟨fun u w' hc hb => ?_, ?_⟩
    go_simp
    (try go_ints); (try simp only [Ob.ite_imx, Ob.ite_imn]); first | exact rfl | (go_simp; exact rfl) | ((go_at_call 33; with_reducible exact HF.out _ (HM.out.below (B := w.heap.size) (by repeat' first | with_reducible exact Below.refl _ _ | with_reducible assumption | with_reducible refine Free.Grow.alloc ?_ _ | with_reducible refine Free.Grow.setCell ?_ (by first | omega | (simp; done) | (simp; omega)) _ | with_reducible refine Free.Grow.drew ?_ | with_reducible refine Free.Grow.trans ?_ (by assumption)) hbw) (by have := hb.size; simp at this; omega))) | ((go_at_call 29; with_reducible exact HNf.out _ (HM.out.below (B := w.heap.size) (by repeat' first | with_reducible exact Below.refl _ _ | with_reducible assumption | with_reducible refine Free.Grow.alloc ?_ _ | with_reducible refine Free.Grow.setCell ?_ (by first | omega | (simp; done) | (simp; omega)) _ | with_reducible refine Free.Grow.drew ?_ | with_reducible refine Free.Grow.trans ?_ (by assumption)) hbw) (by have := hb.size; simp at this; omega))) | ((go_at_call 40; with_reducible exact hSq0.out _)) | (simp only [↓IntWalk.iteOmega]; (try go_simp); exact rfl)
    simp only [Act.put, List.setIfInBounds_toArray, List.set_cons_zero, List.set_cons_succ, List.nil_append, List.cons_append]
  refine Free.E.nil (fun u w1 S hF => ?_)
  have hb1 := hF.below
  clear hF
  have hc1 := (Free.cells_of hb1).1
  have hf1 := (Free.cells_of hb1).2
  have hz1 := hb1.size
  try simp only [World.size_alloc, World.size_setCell, World.size_drew] at hz1
  (try (have : w.heap.size < w1.heap.size := (by omega)))
  (try (have : w.heap.size < w1.heap.size + 1 := (by omega)))
  (try (have : w.heap.size < w1.heap.size + 1 + 1 := (by omega)))
  (try (have : w.heap.size + 1 < w1.heap.size := (by omega)))
  (try (have : w.heap.size + 1 < w1.heap.size + 1 := (by omega)))
  (try (have : w.heap.size + 1 < w1.heap.size + 1 + 1 := (by omega)))
  (try (have : w.heap.size + 1 + 1 < w1.heap.size := (by omega)))
  (try (have : w.heap.size + 1 + 1 < w1.heap.size + 1 := (by omega)))
  (try (have : w.heap.size + 1 + 1 < w1.heap.size + 1 + 1 := (by omega)))
  (try (have : w.heap.size + 1 + 1 + 1 < w1.heap.size := (by omega)))
  (try (have : w.heap.size + 1 + 1 + 1 < w1.heap.size + 1 := (by omega)))
  (try (have : w.heap.size + 1 + 1 + 1 < w1.heap.size + 1 + 1 := (by omega)))
  simp only [List.drop_succ_cons, List.drop_zero, List.drop_nil]
  go_wp2_with (go_at_call 33; refine (HF.out _ (HM.out.below (B := w.heap.size) (by repeat' first | with_reducible exact Below.refl _ _ | with_reducible assumption | with_reducible refine Free.Grow.alloc ?_ _ | with_reducible refine Free.Grow.setCell ?_ (by first | omega | (simp; done) | (simp; omega)) _ | with_reducible refine Free.Grow.drew ?_ | with_reducible refine Free.Grow.trans ?_ (by assumption)) hbw) (by first | omega | (simp; done) | (simp; omega))).mono ?_; rintro e w2 ⟨rfl, hb2⟩; have hc2 := (Free.cells_of hb2).1; have hf2 := (Free.cells_of hb2).2; have hz2 := hb2.size; (try simp only [World.size_alloc, World.size_setCell, World.size_drew] at hz2); (try (have : w.heap.size < w2.heap.size := (by omega))); (try (have : w.heap.size < w2.heap.size + 1 := (by omega))); (try (have : w.heap.size < w2.heap.size + 1 + 1 := (by omega))); (try (have : w.heap.size + 1 < w2.heap.size := (by omega))); (try (have : w.heap.size + 1 < w2.heap.size + 1 := (by omega))); (try (have : w.heap.size + 1 < w2.heap.size + 1 + 1 := (by omega))); (try (have : w.heap.size + 1 + 1 < w2.heap.size := (by omega))); (try (have : w.heap.size + 1 + 1 < w2.heap.size + 1 := (by omega))); (try (have : w.heap.size + 1 + 1 < w2.heap.size + 1 + 1 := (by omega))); (try (have : w.heap.size + 1 + 1 + 1 < w2.heap.size := (by omega))); (try (have : w.heap.size + 1 + 1 + 1 < w2.heap.size + 1 := (by omega))); (try (have : w.heap.size + 1 + 1 + 1 < w2.heap.size + 1 + 1 := (by omega))); (try (have : w1.heap.size < w2.heap.size := (by omega))); (try (have : w1.heap.size < w2.heap.size + 1 := (by omega))); (try (have : w1.heap.size < w2.heap.size + 1 + 1 := (by omega))); (try (have : w1.heap.size + 1 < w2.heap.size := (by omega))); (try (have : w1.heap.size + 1 < w2.heap.size + 1 := (by omega))); (try (have : w1.heap.size + 1 < w2.heap.size + 1 + 1 := (by omega))); (try (have : w1.heap.size + 1 + 1 < w2.heap.size := (by omega))); (try (have : w1.heap.size + 1 + 1 < w2.heap.size + 1 := (by omega))); (try (have : w1.heap.size + 1 + 1 < w2.heap.size + 1 + 1 := (by omega))); (try (have : w1.heap.size + 1 + 1 + 1 < w2.heap.size := (by omega))); (try (have : w1.heap.size + 1 + 1 + 1 < w2.heap.size + 1 := (by omega))); (try (have : w1.heap.size + 1 + 1 + 1 < w2.heap.size + 1 + 1 := (by omega))))
  have s2 : Hid (w2.heap[w.heap.size]? = some (.cells #[.string nm, .int .i64 bd, .slice (some ⟨b, off, none⟩) l.length cap] 24 (0, 0))) := by unfold Hid; repeat' first | with_reducible assumption | with_reducible exact Free.blk_new _ (by first | rfl | (simp; done)) | with_reducible refine Free.blk_alloc_old ?_ | with_reducible refine Free.blk_drew ?_ | with_reducible refine Free.blk_setCell_far ?_ (by first | omega | (simp; done) | (simp; omega)) _ | with_reducible apply Free.blk_setCell_to | (show Array.setIfInBounds _ _ _ = _; first | exact rfl | (simp; done)) | with_reducible refine Free.blk_below ?_ (by assumption)
  have s3 : Hid (w2.heap[w.heap.size + 1]? = some (.cells #[.int .i64 x, .int .i64 y, .int .i64 z] 26 (0, 0))) := by unfold Hid; repeat' first | with_reducible assumption | with_reducible exact Free.blk_new _ (by first | rfl | (simp; done)) | with_reducible refine Free.blk_alloc_old ?_ | with_reducible refine Free.blk_drew ?_ | with_reducible refine Free.blk_setCell_far ?_ (by first | omega | (simp; done) | (simp; omega)) _ | with_reducible apply Free.blk_setCell_to | (show Array.setIfInBounds _ _ _ = _; first | exact rfl | (simp; done)) | with_reducible refine Free.blk_below ?_ (by assumption)
  have sB : Hid (Below w.heap.size w w2) := by unfold Hid; repeat' first | with_reducible exact Below.refl _ _ | with_reducible assumption | with_reducible refine Free.Grow.alloc ?_ _ | with_reducible refine Free.Grow.setCell ?_ (by first | omega | (simp; done) | (simp; omega)) _ | with_reducible refine Free.Grow.drew ?_ | with_reducible refine Free.Grow.trans ?_ (by assumption)
  go_loopw [6, 7, 8, 9] (fun i q t _ wr => ∃ k : Nat, k ≤ N ∧ t = .int .i64 (frstT l + k) ∧ i = .int .i64 (nearTo f (frstT l) (max k 1)).1 ∧ q = .int .i64 (nearTo f (frstT l) (max k 1)).2 ∧ Hid (Below w.heap.size w wr) ∧ Hid (wr.heap[w.heap.size]? = some (.cells #[.string nm, .int .i64 bd, .slice (some ⟨b, off, none⟩) l.length cap] 24 (0, 0))) ∧
      Hid (wr.heap[w.heap.size + 1]? = some (.cells #[.int .i64 x, .int .i64 y, .int .i64 z] 26 (0, 0)))) (fun _ _ t _ _ => (lastT l + 1 - intOf t).toNat)
  case atStart => exact ⟨0, Nat.zero_le _, by simp, by rw [H1.out], by rw [H1.out], sB, s2, s3⟩
  case round =>
    obtain ⟨k, hk, rfl, rfl, rfl, HB, HK2, HK3⟩ := hrel
    clear s2 s3 sB
    have hbr := HB.out
    have k2 := HK2.out
    have k3 := HK3.out
    have c2 := Free.cell_of_blk k2
    have c3 := Free.cell_of_blk k3
    have l2 := Free.lt_of_blk k2
    have l3 := Free.lt_of_blk k3
    have hwr := hbr.size
    clear HK2 HK3
    have HY := Lib.hid (nx_yes (f := f) (a := frstT l) (k := k))
    have HX := Lib.hid (nx_no (f := f) (a := frstT l) (k := k))
    by_cases hlt2 : k < N
    · have ht : frstT l + k ≤ lastT l := by have := HNN.out; omega
      have hq0 := (HMin.out (max k 1) (by omega) (by omega)).1
      have HNk' := Lib.hid (HNk.out k hlt2)
      have hSq' := Lib.hid (hSqk.out k hlt2)
      have HE' := Lib.hid (HE.out (frstT l + k))
      have hnd := HND.out k hlt2
      generalize nearTo f (frstT l) (max k 1) = r at *
      obtain ⟨r1, r2⟩ := r
      generalize nom l (frstT l + k) = q at *
      obtain ⟨qx, qy, qz⟩ := q
      simp only [p3V] at HNk' hSq' HE' HY HX hq0 hnd
      generalize hd : (qx - x) * (qx - x) + (qy - y) * (qy - y) + (qz - z) * (qz - z) = d at *
      by_cases hc : d < r2
      · have HI := Lib.hid (HY.out (by rw [HE'.out]; exact hc))
        rw [HE'.out] at HI
        have HC2 := Lib.hid hc
        clear HY HX HE' hc hd hnd
        go_wp2_with (go_at_call 34; refine (HL.out _ (HM.out.below (B := w.heap.size) (by repeat' first | with_reducible exact Below.refl _ _ | with_reducible assumption | with_reducible refine Free.Grow.alloc ?_ _ | with_reducible refine Free.Grow.setCell ?_ (by first | omega | (simp; done) | (simp; omega)) _ | with_reducible refine Free.Grow.drew ?_ | with_reducible refine Free.Grow.trans ?_ (by assumption)) hbw) (by first | omega | (simp; done) | (simp; omega))).mono ?_; rintro e w4 ⟨rfl, hb4⟩; have hc4 := (Free.cells_of hb4).1; have hf4 := (Free.cells_of hb4).2; have hz4 := hb4.size; (try simp only [World.size_alloc, World.size_setCell, World.size_drew] at hz4); (try (have : w.heap.size < w4.heap.size := (by omega))); (try (have : w.heap.size < w4.heap.size + 1 := (by omega))); (try (have : w.heap.size < w4.heap.size + 1 + 1 := (by omega))); (try (have : w.heap.size + 1 < w4.heap.size := (by omega))); (try (have : w.heap.size + 1 < w4.heap.size + 1 := (by omega))); (try (have : w.heap.size + 1 < w4.heap.size + 1 + 1 := (by omega))); (try (have : w.heap.size + 1 + 1 < w4.heap.size := (by omega))); (try (have : w.heap.size + 1 + 1 < w4.heap.size + 1 := (by omega))); (try (have : w.heap.size + 1 + 1 < w4.heap.size + 1 + 1 := (by omega))); (try (have : w.heap.size + 1 + 1 + 1 < w4.heap.size := (by omega))); (try (have : w.heap.size + 1 + 1 + 1 < w4.heap.size + 1 := (by omega))); (try (have : w.heap.size + 1 + 1 + 1 < w4.heap.size + 1 + 1 := (by omega))); (try (have : wr.heap.size < w4.heap.size := (by omega))); (try (have : wr.heap.size < w4.heap.size + 1 := (by omega))); (try (have : wr.heap.size < w4.heap.size + 1 + 1 := (by omega))); (try (have : wr.heap.size + 1 < w4.heap.size := (by omega))); (try (have : wr.heap.size + 1 < w4.heap.size + 1 := (by omega))); (try (have : wr.heap.size + 1 < w4.heap.size + 1 + 1 := (by omega))); (try (have : wr.heap.size + 1 + 1 < w4.heap.size := (by omega))); (try (have : wr.heap.size + 1 + 1 < w4.heap.size + 1 := (by omega))); (try (have : wr.heap.size + 1 + 1 < w4.heap.size + 1 + 1 := (by omega))); (try (have : wr.heap.size + 1 + 1 + 1 < w4.heap.size := (by omega))); (try (have : wr.heap.size + 1 + 1 + 1 < w4.heap.size + 1 := (by omega))); (try (have : wr.heap.size + 1 + 1 + 1 < w4.heap.size + 1 + 1 := (by omega))))
        refine Free.wp_region 6 #[0, 0, 3, 0, 15, 31] (by kernel_rfl) (by kernel_rfl) ?_
        simp only [List.take_succ_cons, List.take_zero]
        iterate 6
          refine Free.E.q (by rfl) ?_
          apply Exists.intro
          refine ⟨fun u w' hc hb => ?_, ?_⟩
          go_simp
          (try go_ints); (try simp only [Ob.ite_imx, Ob.ite_imn]); first | exact rfl | (go_simp; exact rfl) | ((go_at_call 29; with_reducible exact HNk'.out _ (HM.out.below (B := w.heap.size) (by repeat' first | with_reducible exact Below.refl _ _ | with_reducible assumption | with_reducible refine Free.Grow.alloc ?_ _ | with_reducible refine Free.Grow.setCell ?_ (by first | omega | (simp; done) | (simp; omega)) _ | with_reducible refine Free.Grow.drew ?_ | with_reducible refine Free.Grow.trans ?_ (by assumption)) hbw) (by have := hb.size; omega))) | ((go_at_call 40; with_reducible exact hSq'.out _)) | (simp only [↓IntWalk.iteOmega]; (try go_simp); exact rfl)
          simp only [Act.put, List.setIfInBounds_toArray, List.set_cons_zero, List.set_cons_succ, List.nil_append, List.cons_append]
        refine Free.E.nil (fun u w5 S hF => ?_)
        have hb5 := hF.below
        clear hF
        have hc5 := (Free.cells_of hb5).1
        have hf5 := (Free.cells_of hb5).2
        have hz5 := hb5.size
        try simp only [World.size_alloc, World.size_setCell, World.size_drew] at hz5
        (try (have : w.heap.size < w5.heap.size := (by omega)))
        (try (have : w.heap.size < w5.heap.size + 1 := (by omega)))
        (try (have : w.heap.size < w5.heap.size + 1 + 1 := (by omega)))
        (try (have : w.heap.size + 1 < w5.heap.size := (by omega)))
        (try (have : w.heap.size + 1 < w5.heap.size + 1 := (by omega)))
        (try (have : w.heap.size + 1 < w5.heap.size + 1 + 1 := (by omega)))
        (try (have : w.heap.size + 1 + 1 < w5.heap.size := (by omega)))
        (try (have : w.heap.size + 1 + 1 < w5.heap.size + 1 := (by omega)))
        (try (have : w.heap.size + 1 + 1 < w5.heap.size + 1 + 1 := (by omega)))
        (try (have : w.heap.size + 1 + 1 + 1 < w5.heap.size := (by omega)))
        (try (have : w.heap.size + 1 + 1 + 1 < w5.heap.size + 1 := (by omega)))
        (try (have : w.heap.size + 1 + 1 + 1 < w5.heap.size + 1 + 1 := (by omega)))
        (try (have : wr.heap.size < w5.heap.size := (by omega)))
        (try (have : wr.heap.size < w5.heap.size + 1 := (by omega)))
        (try (have : wr.heap.size < w5.heap.size + 1 + 1 := (by omega)))
        (try (have : wr.heap.size + 1 < w5.heap.size := (by omega)))
        (try (have : wr.heap.size + 1 < w5.heap.size + 1 := (by omega)))
        (try (have : wr.heap.size + 1 < w5.heap.size + 1 + 1 := (by omega)))
        (try (have : wr.heap.size + 1 + 1 < w5.heap.size := (by omega)))
        (try (have : wr.heap.size + 1 + 1 < w5.heap.size + 1 := (by omega)))
        (try (have : wr.heap.size + 1 + 1 < w5.heap.size + 1 + 1 := (by omega)))
        (try (have : wr.heap.size + 1 + 1 + 1 < w5.heap.size := (by omega)))
        (try (have : wr.heap.size + 1 + 1 + 1 < w5.heap.size + 1 := (by omega)))
        (try (have : wr.heap.size + 1 + 1 + 1 < w5.heap.size + 1 + 1 := (by omega)))
        (try (have : w4.heap.size < w5.heap.size := (by omega)))
        (try (have : w4.heap.size < w5.heap.size + 1 := (by omega)))
        (try (have : w4.heap.size < w5.heap.size + 1 + 1 := (by omega)))
        (try (have : w4.heap.size + 1 < w5.heap.size := (by omega)))
        (try (have : w4.heap.size + 1 < w5.heap.size + 1 := (by omega)))
        (try (have : w4.heap.size + 1 < w5.heap.size + 1 + 1 := (by omega)))
        (try (have : w4.heap.size + 1 + 1 < w5.heap.size := (by omega)))
        (try (have : w4.heap.size + 1 + 1 < w5.heap.size + 1 := (by omega)))
        (try (have : w4.heap.size + 1 + 1 < w5.heap.size + 1 + 1 := (by omega)))
        (try (have : w4.heap.size + 1 + 1 + 1 < w5.heap.size := (by omega)))
        (try (have : w4.heap.size + 1 + 1 + 1 < w5.heap.size + 1 := (by omega)))
        (try (have : w4.heap.size + 1 + 1 + 1 < w5.heap.size + 1 + 1 := (by omega)))
        simp only [List.drop_succ_cons, List.drop_zero, List.drop_nil]
        have hc := HC2.out
        go_wp2
        go_roundw
        case rel => exact ⟨k + 1, by omega, by go_num, by rw [HI.out], by rw [HI.out], Lib.hid (by repeat' first | with_reducible exact Below.refl _ _ | with_reducible assumption | with_reducible refine Free.Grow.alloc ?_ _ | with_reducible refine Free.Grow.setCell ?_ (by first | omega | (simp; done) | (simp; omega)) _ | with_reducible refine Free.Grow.drew ?_ | with_reducible refine Free.Grow.trans ?_ (by assumption)), Lib.hid (by repeat' first | with_reducible assumption | with_reducible exact Free.blk_new _ (by first | rfl | (simp; done)) | with_reducible refine Free.blk_alloc_old ?_ | with_reducible refine Free.blk_drew ?_ | with_reducible refine Free.blk_setCell_far ?_ (by first | omega | (simp; done) | (simp; omega)) _ | with_reducible apply Free.blk_setCell_to | (show Array.setIfInBounds _ _ _ = _; first | exact rfl | (simp; done)) | with_reducible refine Free.blk_below ?_ (by assumption)), Lib.hid (by repeat' first | with_reducible assumption | with_reducible exact Free.blk_new _ (by first | rfl | (simp; done)) | with_reducible refine Free.blk_alloc_old ?_ | with_reducible refine Free.blk_drew ?_ | with_reducible refine Free.blk_setCell_far ?_ (by first | omega | (simp; done) | (simp; omega)) _ | with_reducible apply Free.blk_setCell_to | (show Array.setIfInBounds _ _ _ = _; first | exact rfl | (simp; done)) | with_reducible refine Free.blk_below ?_ (by assumption))⟩
        case measure => simp [intOf]; omega
      · have HI := Lib.hid (HX.out (by rw [HE'.out]; exact hc) hq0)
        have HC2 := Lib.hid hc
        clear HY HX HE' hc hd hnd
        go_wp2_with (go_at_call 34; refine (HL.out _ (HM.out.below (B := w.heap.size) (by repeat' first | with_reducible exact Below.refl _ _ | with_reducible assumption | with_reducible refine Free.Grow.alloc ?_ _ | with_reducible refine Free.Grow.setCell ?_ (by first | omega | (simp; done) | (simp; omega)) _ | with_reducible refine Free.Grow.drew ?_ | with_reducible refine Free.Grow.trans ?_ (by assumption)) hbw) (by first | omega | (simp; done) | (simp; omega))).mono ?_; rintro e w4 ⟨rfl, hb4⟩; have hc4 := (Free.cells_of hb4).1; have hf4 := (Free.cells_of hb4).2; have hz4 := hb4.size; (try simp only [World.size_alloc, World.size_setCell, World.size_drew] at hz4); (try (have : w.heap.size < w4.heap.size := (by omega))); (try (have : w.heap.size < w4.heap.size + 1 := (by omega))); (try (have : w.heap.size < w4.heap.size + 1 + 1 := (by omega))); (try (have : w.heap.size + 1 < w4.heap.size := (by omega))); (try (have : w.heap.size + 1 < w4.heap.size + 1 := (by omega))); (try (have : w.heap.size + 1 < w4.heap.size + 1 + 1 := (by omega))); (try (have : w.heap.size + 1 + 1 < w4.heap.size := (by omega))); (try (have : w.heap.size + 1 + 1 < w4.heap.size + 1 := (by omega))); (try (have : w.heap.size + 1 + 1 < w4.heap.size + 1 + 1 := (by omega))); (try (have : w.heap.size + 1 + 1 + 1 < w4.heap.size := (by omega))); (try (have : w.heap.size + 1 + 1 + 1 < w4.heap.size + 1 := (by omega))); (try (have : w.heap.size + 1 + 1 + 1 < w4.heap.size + 1 + 1 := (by omega))); (try (have : wr.heap.size < w4.heap.size := (by omega))); (try (have : wr.heap.size < w4.heap.size + 1 := (by omega))); (try (have : wr.heap.size < w4.heap.size + 1 + 1 := (by omega))); (try (have : wr.heap.size + 1 < w4.heap.size := (by omega))); (try (have : wr.heap.size + 1 < w4.heap.size + 1 := (by omega))); (try (have : wr.heap.size + 1 < w4.heap.size + 1 + 1 := (by omega))); (try (have : wr.heap.size + 1 + 1 < w4.heap.size := (by omega))); (try (have : wr.heap.size + 1 + 1 < w4.heap.size + 1 := (by omega))); (try (have : wr.heap.size + 1 + 1 < w4.heap.size + 1 + 1 := (by omega))); (try (have : wr.heap.size + 1 + 1 + 1 < w4.heap.size := (by omega))); (try (have : wr.heap.size + 1 + 1 + 1 < w4.heap.size + 1 := (by omega))); (try (have : wr.heap.size + 1 + 1 + 1 < w4.heap.size + 1 + 1 := (by omega))))
        refine Free.wp_region 6 #[0, 0, 3, 0, 15, 31] (by kernel_rfl) (by kernel_rfl) ?_
        simp only [List.take_succ_cons, List.take_zero]
        iterate 6
          refine Free.E.q (by rfl) ?_
          apply Exists.intro
          refine ⟨fun u w' hc hb => ?_, ?_⟩
          go_simp
          (try go_ints); (try simp only [Ob.ite_imx, Ob.ite_imn]); first | exact rfl | (go_simp; exact rfl) | ((go_at_call 29; with_reducible exact HNk'.out _ (HM.out.below (B := w.heap.size) (by repeat' first | with_reducible exact Below.refl _ _ | with_reducible assumption | with_reducible refine Free.Grow.alloc ?_ _ | with_reducible refine Free.Grow.setCell ?_ (by first | omega | (simp; done) | (simp; omega)) _ | with_reducible refine Free.Grow.drew ?_ | with_reducible refine Free.Grow.trans ?_ (by assumption)) hbw) (by have := hb.size; omega))) | ((go_at_call 40; with_reducible exact hSq'.out _)) | (simp only [↓IntWalk.iteOmega]; (try go_simp); exact rfl)
          simp only [Act.put, List.setIfInBounds_toArray, List.set_cons_zero, List.set_cons_succ, List.nil_append, List.cons_append]
        refine Free.E.nil (fun u w5 S hF => ?_)
        have hb5 := hF.below
        clear hF
        have hc5 := (Free.cells_of hb5).1
        have hf5 := (Free.cells_of hb5).2
        have hz5 := hb5.size
        try simp only [World.size_alloc, World.size_setCell, World.size_drew] at hz5
        (try (have : w.heap.size < w5.heap.size := (by omega)))
        (try (have : w.heap.size < w5.heap.size + 1 := (by omega)))
        (try (have : w.heap.size < w5.heap.size + 1 + 1 := (by omega)))
        (try (have : w.heap.size + 1 < w5.heap.size := (by omega)))
        (try (have : w.heap.size + 1 < w5.heap.size + 1 := (by omega)))
        (try (have : w.heap.size + 1 < w5.heap.size + 1 + 1 := (by omega)))
        (try (have : w.heap.size + 1 + 1 < w5.heap.size := (by omega)))
        (try (have : w.heap.size + 1 + 1 < w5.heap.size + 1 := (by omega)))
        (try (have : w.heap.size + 1 + 1 < w5.heap.size + 1 + 1 := (by omega)))
        (try (have : w.heap.size + 1 + 1 + 1 < w5.heap.size := (by omega)))
        (try (have : w.heap.size + 1 + 1 + 1 < w5.heap.size + 1 := (by omega)))
        (try (have : w.heap.size + 1 + 1 + 1 < w5.heap.size + 1 + 1 := (by omega)))
        (try (have : wr.heap.size < w5.heap.size := (by omega)))
        (try (have : wr.heap.size < w5.heap.size + 1 := (by omega)))
        (try (have : wr.heap.size < w5.heap.size + 1 + 1 := (by omega)))
        (try (have : wr.heap.size + 1 < w5.heap.size := (by omega)))
        (try (have : wr.heap.size + 1 < w5.heap.size + 1 := (by omega)))
        (try (have : wr.heap.size + 1 < w5.heap.size + 1 + 1 := (by omega)))
        (try (have : wr.heap.size + 1 + 1 < w5.heap.size := (by omega)))
        (try (have : wr.heap.size + 1 + 1 < w5.heap.size + 1 := (by omega)))
        (try (have : wr.heap.size + 1 + 1 < w5.heap.size + 1 + 1 := (by omega)))
        (try (have : wr.heap.size + 1 + 1 + 1 < w5.heap.size := (by omega)))
        (try (have : wr.heap.size + 1 + 1 + 1 < w5.heap.size + 1 := (by omega)))
        (try (have : wr.heap.size + 1 + 1 + 1 < w5.heap.size + 1 + 1 := (by omega)))
        (try (have : w4.heap.size < w5.heap.size := (by omega)))
        (try (have : w4.heap.size < w5.heap.size + 1 := (by omega)))
        (try (have : w4.heap.size < w5.heap.size + 1 + 1 := (by omega)))
        (try (have : w4.heap.size + 1 < w5.heap.size := (by omega)))
        (try (have : w4.heap.size + 1 < w5.heap.size + 1 := (by omega)))
        (try (have : w4.heap.size + 1 < w5.heap.size + 1 + 1 := (by omega)))
        (try (have : w4.heap.size + 1 + 1 < w5.heap.size := (by omega)))
        (try (have : w4.heap.size + 1 + 1 < w5.heap.size + 1 := (by omega)))
        (try (have : w4.heap.size + 1 + 1 < w5.heap.size + 1 + 1 := (by omega)))
        (try (have : w4.heap.size + 1 + 1 + 1 < w5.heap.size := (by omega)))
        (try (have : w4.heap.size + 1 + 1 + 1 < w5.heap.size + 1 := (by omega)))
        (try (have : w4.heap.size + 1 + 1 + 1 < w5.heap.size + 1 + 1 := (by omega)))
        simp only [List.drop_succ_cons, List.drop_zero, List.drop_nil]
        have hc := HC2.out
        go_wp2
        go_roundw
        case rel => exact ⟨k + 1, by omega, by go_num, by rw [HI.out], by rw [HI.out], Lib.hid (by repeat' first | with_reducible exact Below.refl _ _ | with_reducible assumption | with_reducible refine Free.Grow.alloc ?_ _ | with_reducible refine Free.Grow.setCell ?_ (by first | omega | (simp; done) | (simp; omega)) _ | with_reducible refine Free.Grow.drew ?_ | with_reducible refine Free.Grow.trans ?_ (by assumption)), Lib.hid (by repeat' first | with_reducible assumption | with_reducible exact Free.blk_new _ (by first | rfl | (simp; done)) | with_reducible refine Free.blk_alloc_old ?_ | with_reducible refine Free.blk_drew ?_ | with_reducible refine Free.blk_setCell_far ?_ (by first | omega | (simp; done) | (simp; omega)) _ | with_reducible apply Free.blk_setCell_to | (show Array.setIfInBounds _ _ _ = _; first | exact rfl | (simp; done)) | with_reducible refine Free.blk_below ?_ (by assumption)), Lib.hid (by repeat' first | with_reducible assumption | with_reducible exact Free.blk_new _ (by first | rfl | (simp; done)) | with_reducible refine Free.blk_alloc_old ?_ | with_reducible refine Free.blk_drew ?_ | with_reducible refine Free.blk_setCell_far ?_ (by first | omega | (simp; done) | (simp; omega)) _ | with_reducible apply Free.blk_setCell_to | (show Array.setIfInBounds _ _ _ = _; first | exact rfl | (simp; done)) | with_reducible refine Free.blk_below ?_ (by assumption))⟩
        case measure => simp [intOf]; omega
    · obtain rfl : k = N := by omega
      have ht : ¬ frstT l + k ≤ lastT l := by have := HNN.out; omega
      go_wp2_with (go_at_call 34; refine (HL.out _ (HM.out.below (B := w.heap.size) (by repeat' first | with_reducible exact Below.refl _ _ | with_reducible assumption | with_reducible refine Free.Grow.alloc ?_ _ | with_reducible refine Free.Grow.setCell ?_ (by first | omega | (simp; done) | (simp; omega)) _ | with_reducible refine Free.Grow.drew ?_ | with_reducible refine Free.Grow.trans ?_ (by assumption)) hbw) (by first | omega | (simp; done) | (simp; omega))).mono ?_; rintro e w4 ⟨rfl, hb4⟩; have hc4 := (Free.cells_of hb4).1; have hf4 := (Free.cells_of hb4).2; have hz4 := hb4.size; (try simp only [World.size_alloc, World.size_setCell, World.size_drew] at hz4); (try (have : w.heap.size < w4.heap.size := (by omega))); (try (have : w.heap.size < w4.heap.size + 1 := (by omega))); (try (have : w.heap.size < w4.heap.size + 1 + 1 := (by omega))); (try (have : w.heap.size + 1 < w4.heap.size := (by omega))); (try (have : w.heap.size + 1 < w4.heap.size + 1 := (by omega))); (try (have : w.heap.size + 1 < w4.heap.size + 1 + 1 := (by omega))); (try (have : w.heap.size + 1 + 1 < w4.heap.size := (by omega))); (try (have : w.heap.size + 1 + 1 < w4.heap.size + 1 := (by omega))); (try (have : w.heap.size + 1 + 1 < w4.heap.size + 1 + 1 := (by omega))); (try (have : w.heap.size + 1 + 1 + 1 < w4.heap.size := (by omega))); (try (have : w.heap.size + 1 + 1 + 1 < w4.heap.size + 1 := (by omega))); (try (have : w.heap.size + 1 + 1 + 1 < w4.heap.size + 1 + 1 := (by omega))); (try (have : wr.heap.size < w4.heap.size := (by omega))); (try (have : wr.heap.size < w4.heap.size + 1 := (by omega))); (try (have : wr.heap.size < w4.heap.size + 1 + 1 := (by omega))); (try (have : wr.heap.size + 1 < w4.heap.size := (by omega))); (try (have : wr.heap.size + 1 < w4.heap.size + 1 := (by omega))); (try (have : wr.heap.size + 1 < w4.heap.size + 1 + 1 := (by omega))); (try (have : wr.heap.size + 1 + 1 < w4.heap.size := (by omega))); (try (have : wr.heap.size + 1 + 1 < w4.heap.size + 1 := (by omega))); (try (have : wr.heap.size + 1 + 1 < w4.heap.size + 1 + 1 := (by omega))); (try (have : wr.heap.size + 1 + 1 + 1 < w4.heap.size := (by omega))); (try (have : wr.heap.size + 1 + 1 + 1 < w4.heap.size + 1 := (by omega))); (try (have : wr.heap.size + 1 + 1 + 1 < w4.heap.size + 1 + 1 := (by omega))))
      first | (go_ret2; exact HR.out _ (by repeat' first | with_reducible exact Below.refl _ _ | with_reducible assumption | with_reducible refine Free.Grow.alloc ?_ _ | with_reducible refine Free.Grow.setCell ?_ (by first | omega | (simp; done) | (simp; omega)) _ | with_reducible refine Free.Grow.drew ?_ | with_reducible refine Free.Grow.trans ?_ (by assumption))) | exact HR.out _ (by repeat' first | with_reducible exact Below.refl _ _ | with_reducible assumption | with_reducible refine Free.Grow.alloc ?_ _ | with_reducible refine Free.Grow.setCell ?_ (by first | omega | (simp; done) | (simp; omega)) _ | with_reducible refine Free.Grow.drew ?_ | with_reducible refine Free.Grow.trans ?_ (by assumption))
end Go.Proofs.Ytaoennekamlfeaa
