/- Chapter 2: CheckNearest, its loop. -/
import Derived.Test.Ytaoennekamlfeaa02K
import Derived.Test.YtaoennekamlfeaaFreeR
set_option linter.unusedSimpArgs false
set_option linter.unusedVariables false
namespace Go.Free
open Go.RowKit
theorem blk_put {w : World} {g D : Nat} {o o' : Obj} (h : w.heap[g]? = some o) (hne : D ≠ g) : (w.putObj D o').heap[g]? = some o := (World.putObj_heap_other (Ne.symm hne)).trans h
end Go.Free
namespace Go.Proofs.Ytaoennekamlfeaa
open Go.RowKit Go.Ob Go.Shelf
attribute [local go_sem] Oper.semAt_some

set_option maxRecDepth 100000 in
set_option maxHeartbeats 4000000 in
theorem CheckNearest_loop (nm : ByteArray) (bd x y z lo hi wi : Int) (b off cap : Nat) (l : List St) (w : World) (hO : OrbIn w nm (some ⟨b, off, none⟩) cap l) (hS : HasSts w b off l) (hbw : b < w.heap.size) (h : plE nm.data.toList bd l x y z = 0)
    (h1 : rngB lo (frstT l) (lastT l) = true) (h2 : rngB hi (frstT l) (lastT l) = true) (h3 : rngB wi (frstT l) (lastT l) = true) (hlt : ¬ hi < lo) :
    Calls Try.prog 31 #[obV nm bd (some ⟨b, off, none⟩) l.length cap, v3 x y z, cnV lo hi wi] w fun e w' => e = .returned (.tuple #[.int .i64 (cnR bd l x y z lo hi wi).1, .int .i64 (cnR bd l x y z lo hi wi).2]) ∧ Below w.heap.size w w' := by
  have HA := Lib.hid (fun w' (h : OrbIn w' nm (some ⟨b, off, none⟩) cap l) => pathOf_any nm bd (some ⟨b, off, none⟩) cap l w' h.nm h.sts h.cap h.len)
  have hR := (orbE_right ((firstE_two _ _).1 h).1).1
  obtain ⟨hx, hy, hz⟩ := placeE_zero ((firstE_two _ _).1 h).2
  have hn2 := hR.n2
  have hn40 := hR.n40
  have hle := hR.le 0 (l.length - 1) (by omega) (by omega)
  have hfl : frstT l ≤ lastT l := hle
  have ht0 : 0 ≤ frstT l := (hR.ok 0 (by omega)).t0
  have ht1 : lastT l ≤ 1000000000 := (hR.ok (l.length - 1) (by omega)).t1
  have HNN : Hid ((nTicks l : Int) = lastT l + 1 - frstT l) := by unfold nTicks; show _ = _; omega
  have r1 := rngB_true.1 h1
  have r2 := rngB_true.1 h2
  have r3 := rngB_true.1 h3
  obtain ⟨r10, r11⟩ := r1
  obtain ⟨r20, r21⟩ := r2
  obtain ⟨r30, r31⟩ := r3
  have HH := Lib.hid (fun t w' (hS' : HasSts w' b off l) (hb' : b < w'.heap.size) => has_any nm bd t b off cap l w' hS' hb' (by omega) (by omega) hO.cap)
  have HBw := Lib.hid (fun w' (hS' : HasSts w' b off l) (hb' : b < w'.heap.size) => box_any nm bd wi b off cap l w' hR r30 r31 hS' hb' hO.cap)
  have HSw := Lib.hid (fun w => squares_any (bx bd l wi) x y z w (bx_ok hR r30 r31) (by omega) (by omega) (by omega) (by omega) (by omega) (by omega))
  have HBk := Lib.hid (fun (k : Nat) (hk : k < nTicks l) w' (hS' : HasSts w' b off l) (hb' : b < w'.heap.size) => box_any nm bd (frstT l + k) b off cap l w' hR (by omega) (by have := HNN.out; omega) hS' hb' hO.cap)
  have HSk := Lib.hid (fun (k : Nat) (hk : k < nTicks l) w => squares_any (bx bd l (frstT l + k)) x y z w (bx_ok hR (by omega) (by have := HNN.out; omega)) (by omega) (by omega) (by omega) (by omega) (by omega) (by omega))
  have HEA := Lib.hid (fun w' (n₂ : Nat) (hw : w.heap.size ≤ n₂) (hw' : w.heap.size ≤ w'.heap.size) (hS' : HasSts w' b off l) => each_in 7 (by omega) nm bd b off cap l w' hR w.heap.size n₂ hS' hbw hw hw' hO.cap)
  have hE0 : (firstE [(orbE nm.data.toList bd l).2, placeE x y z] != 0) = false := by rw [show firstE [(orbE nm.data.toList bd l).2, placeE x y z] = 0 from h]; rfl
  have HCR : cnR bd l x y z lo hi wi = if cnAny (cnBad bd l x y z lo hi (sqHi (bx bd l wi) x y z)) (frstT l) (nTicks l) = true then (0, 22) else (hi - lo + 1, 0) := by
    unfold cnR; rw [if_neg (by rw [h1, h2, h3]; simp), if_neg hlt]
  rw [HCR]
  have HO := Lib.hid hO
  have HM := Lib.hid hS
  have HBad : Hid (∀ t, cnBad bd l x y z lo hi (sqHi (bx bd l wi) x y z) t = (!rngB t lo hi && decide (sqLo (bx bd l t) x y z ≤ sqHi (bx bd l wi) x y z))) := fun t => rfl
  clear h hO hS hR HCR hle
  generalize (orbE nm.data.toList bd l).2 = c at *
  generalize cnBad bd l x y z lo hi (sqHi (bx bd l wi) x y z) = bad at *
  generalize sqHi (bx bd l wi) x y z = most at *
  generalize nTicks l = N at *
  refine Calls.made fun R HR => ?_
  have HRF : Hid (cnAny bad (frstT l) N = false → ∀ w', Below w.heap.size w w' → R (.returned (.tuple #[.int .i64 (hi - lo + 1), .int .i64 0])) w') := fun h w' hb => by have := HR.out w' hb; rw [h] at this; exact this
  have HRT : Hid (cnAny bad (frstT l) N = true → ∀ w', Below w.heap.size w w' → R (.returned (.tuple #[.int .i64 0, .int .i64 22])) w') := fun h w' hb => by have := HR.out w' hb; rw [h] at this; exact this
  clear HR
  (refine Free.calls_of_each Try.func31 rfl ?_; simp only [Try.ntmps31, List.size_toArray, List.length_cons, List.length_nil, Nat.reduceAdd, Nat.reduceSub, Array.replicate_succ, Array.replicate_zero, List.push_toArray, List.append_toArray, List.nil_append, List.cons_append])
  go_wp2_with (first | (go_at_call 67; refine (HA.out _ (HO.out.below (by repeat' first | with_reducible exact Below.refl _ _ | with_reducible assumption | with_reducible refine Free.Grow.alloc ?_ _ | with_reducible refine Free.Grow.setCell ?_ (by first | omega | (simp; done) | (simp; omega)) _ | with_reducible refine Free.Grow.drew ?_ | with_reducible refine Free.Grow.trans ?_ (by assumption)))).mono ?_; rintro e w1 ⟨rfl, hb1⟩; have hc1 := (Free.cells_of hb1).1; have hf1 := (Free.cells_of hb1).2; have hz1 := hb1.size; (try simp only [World.size_alloc, World.size_setCell, World.size_drew] at hz1); (try (have : w.heap.size < w1.heap.size := (by omega))); (try (have : w.heap.size < w1.heap.size + 1 := (by omega))); (try (have : w.heap.size < w1.heap.size + 1 + 1 := (by omega))); (try (have : w.heap.size + 1 < w1.heap.size := (by omega))); (try (have : w.heap.size + 1 < w1.heap.size + 1 := (by omega))); (try (have : w.heap.size + 1 < w1.heap.size + 1 + 1 := (by omega))); (try (have : w.heap.size + 1 + 1 < w1.heap.size := (by omega))); (try (have : w.heap.size + 1 + 1 < w1.heap.size + 1 := (by omega))); (try (have : w.heap.size + 1 + 1 < w1.heap.size + 1 + 1 := (by omega))); (try (have : w.heap.size + 1 + 1 + 1 < w1.heap.size := (by omega))); (try (have : w.heap.size + 1 + 1 + 1 < w1.heap.size + 1 := (by omega))); (try (have : w.heap.size + 1 + 1 + 1 < w1.heap.size + 1 + 1 := (by omega))); (try (have : w.heap.size + 1 + 1 + 1 + 1 < w1.heap.size := (by omega))); (try (have : w.heap.size + 1 + 1 + 1 + 1 < w1.heap.size + 1 := (by omega))); (try (have : w.heap.size + 1 + 1 + 1 + 1 < w1.heap.size + 1 + 1 := (by omega))); (try (have : w.heap.size + 1 + 1 + 1 + 1 + 1 < w1.heap.size := (by omega))); (try (have : w.heap.size + 1 + 1 + 1 + 1 + 1 < w1.heap.size + 1 := (by omega))); (try (have : w.heap.size + 1 + 1 + 1 + 1 + 1 < w1.heap.size + 1 + 1 := (by omega)))) | (go_at_call 69; refine (checkPlace_any _ _ _ _).mono ?_; rintro e w2 ⟨rfl, hb2⟩; have hc2 := (Free.cells_of hb2).1; have hf2 := (Free.cells_of hb2).2; have hz2 := hb2.size; (try simp only [World.size_alloc, World.size_setCell, World.size_drew] at hz2); (try (have : w.heap.size < w2.heap.size := (by omega))); (try (have : w.heap.size < w2.heap.size + 1 := (by omega))); (try (have : w.heap.size < w2.heap.size + 1 + 1 := (by omega))); (try (have : w.heap.size + 1 < w2.heap.size := (by omega))); (try (have : w.heap.size + 1 < w2.heap.size + 1 := (by omega))); (try (have : w.heap.size + 1 < w2.heap.size + 1 + 1 := (by omega))); (try (have : w.heap.size + 1 + 1 < w2.heap.size := (by omega))); (try (have : w.heap.size + 1 + 1 < w2.heap.size + 1 := (by omega))); (try (have : w.heap.size + 1 + 1 < w2.heap.size + 1 + 1 := (by omega))); (try (have : w.heap.size + 1 + 1 + 1 < w2.heap.size := (by omega))); (try (have : w.heap.size + 1 + 1 + 1 < w2.heap.size + 1 := (by omega))); (try (have : w.heap.size + 1 + 1 + 1 < w2.heap.size + 1 + 1 := (by omega))); (try (have : w.heap.size + 1 + 1 + 1 + 1 < w2.heap.size := (by omega))); (try (have : w.heap.size + 1 + 1 + 1 + 1 < w2.heap.size + 1 := (by omega))); (try (have : w.heap.size + 1 + 1 + 1 + 1 < w2.heap.size + 1 + 1 := (by omega))); (try (have : w.heap.size + 1 + 1 + 1 + 1 + 1 < w2.heap.size := (by omega))); (try (have : w.heap.size + 1 + 1 + 1 + 1 + 1 < w2.heap.size + 1 := (by omega))); (try (have : w.heap.size + 1 + 1 + 1 + 1 + 1 < w2.heap.size + 1 + 1 := (by omega))); (try (have : w1.heap.size < w2.heap.size := (by omega))); (try (have : w1.heap.size < w2.heap.size + 1 := (by omega))); (try (have : w1.heap.size < w2.heap.size + 1 + 1 := (by omega))); (try (have : w1.heap.size + 1 < w2.heap.size := (by omega))); (try (have : w1.heap.size + 1 < w2.heap.size + 1 := (by omega))); (try (have : w1.heap.size + 1 < w2.heap.size + 1 + 1 := (by omega))); (try (have : w1.heap.size + 1 + 1 < w2.heap.size := (by omega))); (try (have : w1.heap.size + 1 + 1 < w2.heap.size + 1 := (by omega))); (try (have : w1.heap.size + 1 + 1 < w2.heap.size + 1 + 1 := (by omega))); (try (have : w1.heap.size + 1 + 1 + 1 < w2.heap.size := (by omega))); (try (have : w1.heap.size + 1 + 1 + 1 < w2.heap.size + 1 := (by omega))); (try (have : w1.heap.size + 1 + 1 + 1 < w2.heap.size + 1 + 1 := (by omega)))) | (go_at_call 68; refine (first2_any _ c (placeE x y z) _ (by simp [go_sem]) (by simp [go_sem])).mono ?_; rintro e w' ⟨rfl, rfl⟩) | (go_at_call 86; refine (HH.out _ _ (HM.out.below (B := w.heap.size) (by repeat' first | with_reducible exact Below.refl _ _ | with_reducible assumption | with_reducible refine Free.Grow.alloc ?_ _ | with_reducible refine Free.Grow.setCell ?_ (by first | omega | (simp; done) | (simp; omega)) _ | with_reducible refine Free.Grow.drew ?_ | with_reducible refine Free.Grow.trans ?_ (by assumption)) hbw) (by first | omega | (simp; done) | (simp; omega))).mono ?_; rintro e w3 ⟨rfl, hb3⟩; have hc3 := (Free.cells_of hb3).1; have hf3 := (Free.cells_of hb3).2; have hz3 := hb3.size; (try simp only [World.size_alloc, World.size_setCell, World.size_drew] at hz3); (try (have : w.heap.size < w3.heap.size := (by omega))); (try (have : w.heap.size < w3.heap.size + 1 := (by omega))); (try (have : w.heap.size < w3.heap.size + 1 + 1 := (by omega))); (try (have : w.heap.size + 1 < w3.heap.size := (by omega))); (try (have : w.heap.size + 1 < w3.heap.size + 1 := (by omega))); (try (have : w.heap.size + 1 < w3.heap.size + 1 + 1 := (by omega))); (try (have : w.heap.size + 1 + 1 < w3.heap.size := (by omega))); (try (have : w.heap.size + 1 + 1 < w3.heap.size + 1 := (by omega))); (try (have : w.heap.size + 1 + 1 < w3.heap.size + 1 + 1 := (by omega))); (try (have : w.heap.size + 1 + 1 + 1 < w3.heap.size := (by omega))); (try (have : w.heap.size + 1 + 1 + 1 < w3.heap.size + 1 := (by omega))); (try (have : w.heap.size + 1 + 1 + 1 < w3.heap.size + 1 + 1 := (by omega))); (try (have : w.heap.size + 1 + 1 + 1 + 1 < w3.heap.size := (by omega))); (try (have : w.heap.size + 1 + 1 + 1 + 1 < w3.heap.size + 1 := (by omega))); (try (have : w.heap.size + 1 + 1 + 1 + 1 < w3.heap.size + 1 + 1 := (by omega))); (try (have : w.heap.size + 1 + 1 + 1 + 1 + 1 < w3.heap.size := (by omega))); (try (have : w.heap.size + 1 + 1 + 1 + 1 + 1 < w3.heap.size + 1 := (by omega))); (try (have : w.heap.size + 1 + 1 + 1 + 1 + 1 < w3.heap.size + 1 + 1 := (by omega))); (try (have : w1.heap.size < w3.heap.size := (by omega))); (try (have : w1.heap.size < w3.heap.size + 1 := (by omega))); (try (have : w1.heap.size < w3.heap.size + 1 + 1 := (by omega))); (try (have : w1.heap.size + 1 < w3.heap.size := (by omega))); (try (have : w1.heap.size + 1 < w3.heap.size + 1 := (by omega))); (try (have : w1.heap.size + 1 < w3.heap.size + 1 + 1 := (by omega))); (try (have : w1.heap.size + 1 + 1 < w3.heap.size := (by omega))); (try (have : w1.heap.size + 1 + 1 < w3.heap.size + 1 := (by omega))); (try (have : w1.heap.size + 1 + 1 < w3.heap.size + 1 + 1 := (by omega))); (try (have : w1.heap.size + 1 + 1 + 1 < w3.heap.size := (by omega))); (try (have : w1.heap.size + 1 + 1 + 1 < w3.heap.size + 1 := (by omega))); (try (have : w1.heap.size + 1 + 1 + 1 < w3.heap.size + 1 + 1 := (by omega))); (try (have : w2.heap.size < w3.heap.size := (by omega))); (try (have : w2.heap.size < w3.heap.size + 1 := (by omega))); (try (have : w2.heap.size < w3.heap.size + 1 + 1 := (by omega))); (try (have : w2.heap.size + 1 < w3.heap.size := (by omega))); (try (have : w2.heap.size + 1 < w3.heap.size + 1 := (by omega))); (try (have : w2.heap.size + 1 < w3.heap.size + 1 + 1 := (by omega))); (try (have : w2.heap.size + 1 + 1 < w3.heap.size := (by omega))); (try (have : w2.heap.size + 1 + 1 < w3.heap.size + 1 := (by omega))); (try (have : w2.heap.size + 1 + 1 < w3.heap.size + 1 + 1 := (by omega))); (try (have : w2.heap.size + 1 + 1 + 1 < w3.heap.size := (by omega))); (try (have : w2.heap.size + 1 + 1 + 1 < w3.heap.size + 1 := (by omega))); (try (have : w2.heap.size + 1 + 1 + 1 < w3.heap.size + 1 + 1 := (by omega)))))
  refine Free.wp_region 10 #[0, 0, 2, 7, 0, 31, 63, 127, 0, 511] (by kernel_rfl) (by kernel_rfl) ?_
  simp only [List.take_succ_cons, List.take_zero]
  iterate 8
    refine Free.E.q (by rfl) ?_
    apply Exists.intro
    refine ⟨fun u w' hc hb => ?_, ?_⟩
    go_simp
    (try go_ints); (try simp only [Ob.ite_imx, Ob.ite_imn]); first | exact rfl | (go_simp; exact rfl) | ((go_at_call 82; with_reducible exact HBw.out _ (HM.out.below (B := w.heap.size) (by repeat' first | with_reducible exact Below.refl _ _ | with_reducible assumption | with_reducible refine Free.Grow.alloc ?_ _ | with_reducible refine Free.Grow.setCell ?_ (by first | omega | (simp; done) | (simp; omega)) _ | with_reducible refine Free.Grow.drew ?_ | with_reducible refine Free.Grow.trans ?_ (by assumption)) hbw) (by have := hb.size; omega))) | ((go_at_call 76; exact vectorOf_any _ _ _ _)) | ((go_at_call 87; with_reducible exact HSw.out _)) | (simp only [↓IntWalk.iteOmega]; (try go_simp); exact rfl)
    simp only [Act.put, List.setIfInBounds_toArray, List.set_cons_zero, List.set_cons_succ, List.nil_append, List.cons_append]
  refine Free.E.new (z := #[.int .i64 0]) (by rfl) rfl (by kernel_rfl) ?_
  simp only [Act.put, List.setIfInBounds_toArray, List.set_cons_zero, List.set_cons_succ, List.nil_append, List.cons_append]
  refine Free.E.init (k := 8) (by rfl) (by rfl) rfl rfl (by rfl) (by decide) (by rfl) (fun _ => rfl) (fun _ => rfl) (by kernel_rfl) rfl rfl (by rfl) ?_
  simp only [List.nil_append, List.cons_append]
  refine Free.E.nil (fun u w4 S hF => ?_)
  have hb4 := hF.below
  obtain ⟨b4_8, hu4_8, hlo4_8, hhi4_8, -, hk4_8⟩ := hF.allocs 8 _ _ rfl
  simp only [Free.final, List.findSome?, reduceIte, Option.getD_some, Option.getD_none, Nat.reduceEqDiff, Value.cells] at hk4_8
  clear hF
  have hc4 := (Free.cells_of hb4).1
  have hf4 := (Free.cells_of hb4).2
  have hz4 := hb4.size
  simp only [hu4_8]
  have hcb4_8 := Free.cell_of_blk hk4_8
  have hfb4_8 := Free.frozen_of_blk hk4_8
  have HK4_8 := Lib.hid hk4_8
  clear hu4_8 hk4_8
  try simp only [World.size_alloc, World.size_setCell, World.size_drew] at hz4 hlo4_8
  (try (have : w.heap.size < w4.heap.size := (by omega)))
  (try (have : w.heap.size < w4.heap.size + 1 := (by omega)))
  (try (have : w.heap.size < w4.heap.size + 1 + 1 := (by omega)))
  (try (have : w.heap.size + 1 < w4.heap.size := (by omega)))
  (try (have : w.heap.size + 1 < w4.heap.size + 1 := (by omega)))
  (try (have : w.heap.size + 1 < w4.heap.size + 1 + 1 := (by omega)))
  (try (have : w.heap.size + 1 + 1 < w4.heap.size := (by omega)))
  (try (have : w.heap.size + 1 + 1 < w4.heap.size + 1 := (by omega)))
  (try (have : w.heap.size + 1 + 1 < w4.heap.size + 1 + 1 := (by omega)))
  (try (have : w.heap.size + 1 + 1 + 1 < w4.heap.size := (by omega)))
  (try (have : w.heap.size + 1 + 1 + 1 < w4.heap.size + 1 := (by omega)))
  (try (have : w.heap.size + 1 + 1 + 1 < w4.heap.size + 1 + 1 := (by omega)))
  (try (have : w.heap.size + 1 + 1 + 1 + 1 < w4.heap.size := (by omega)))
  (try (have : w.heap.size + 1 + 1 + 1 + 1 < w4.heap.size + 1 := (by omega)))
  (try (have : w.heap.size + 1 + 1 + 1 + 1 < w4.heap.size + 1 + 1 := (by omega)))
  (try (have : w.heap.size + 1 + 1 + 1 + 1 + 1 < w4.heap.size := (by omega)))
  (try (have : w.heap.size + 1 + 1 + 1 + 1 + 1 < w4.heap.size + 1 := (by omega)))
  (try (have : w.heap.size + 1 + 1 + 1 + 1 + 1 < w4.heap.size + 1 + 1 := (by omega)))
  (try (have : w1.heap.size < w4.heap.size := (by omega)))
  (try (have : w1.heap.size < w4.heap.size + 1 := (by omega)))
  (try (have : w1.heap.size < w4.heap.size + 1 + 1 := (by omega)))
  (try (have : w1.heap.size + 1 < w4.heap.size := (by omega)))
  (try (have : w1.heap.size + 1 < w4.heap.size + 1 := (by omega)))
  (try (have : w1.heap.size + 1 < w4.heap.size + 1 + 1 := (by omega)))
  (try (have : w1.heap.size + 1 + 1 < w4.heap.size := (by omega)))
  (try (have : w1.heap.size + 1 + 1 < w4.heap.size + 1 := (by omega)))
  (try (have : w1.heap.size + 1 + 1 < w4.heap.size + 1 + 1 := (by omega)))
  (try (have : w1.heap.size + 1 + 1 + 1 < w4.heap.size := (by omega)))
  (try (have : w1.heap.size + 1 + 1 + 1 < w4.heap.size + 1 := (by omega)))
  (try (have : w1.heap.size + 1 + 1 + 1 < w4.heap.size + 1 + 1 := (by omega)))
  (try (have : w2.heap.size < w4.heap.size := (by omega)))
  (try (have : w2.heap.size < w4.heap.size + 1 := (by omega)))
  (try (have : w2.heap.size < w4.heap.size + 1 + 1 := (by omega)))
  (try (have : w2.heap.size + 1 < w4.heap.size := (by omega)))
  (try (have : w2.heap.size + 1 < w4.heap.size + 1 := (by omega)))
  (try (have : w2.heap.size + 1 < w4.heap.size + 1 + 1 := (by omega)))
  (try (have : w2.heap.size + 1 + 1 < w4.heap.size := (by omega)))
  (try (have : w2.heap.size + 1 + 1 < w4.heap.size + 1 := (by omega)))
  (try (have : w2.heap.size + 1 + 1 < w4.heap.size + 1 + 1 := (by omega)))
  (try (have : w2.heap.size + 1 + 1 + 1 < w4.heap.size := (by omega)))
  (try (have : w2.heap.size + 1 + 1 + 1 < w4.heap.size + 1 := (by omega)))
  (try (have : w2.heap.size + 1 + 1 + 1 < w4.heap.size + 1 + 1 := (by omega)))
  (try (have : w3.heap.size < w4.heap.size := (by omega)))
  (try (have : w3.heap.size < w4.heap.size + 1 := (by omega)))
  (try (have : w3.heap.size < w4.heap.size + 1 + 1 := (by omega)))
  (try (have : w3.heap.size + 1 < w4.heap.size := (by omega)))
  (try (have : w3.heap.size + 1 < w4.heap.size + 1 := (by omega)))
  (try (have : w3.heap.size + 1 < w4.heap.size + 1 + 1 := (by omega)))
  (try (have : w3.heap.size + 1 + 1 < w4.heap.size := (by omega)))
  (try (have : w3.heap.size + 1 + 1 < w4.heap.size + 1 := (by omega)))
  (try (have : w3.heap.size + 1 + 1 < w4.heap.size + 1 + 1 := (by omega)))
  (try (have : w3.heap.size + 1 + 1 + 1 < w4.heap.size := (by omega)))
  (try (have : w3.heap.size + 1 + 1 + 1 < w4.heap.size + 1 := (by omega)))
  (try (have : w3.heap.size + 1 + 1 + 1 < w4.heap.size + 1 + 1 := (by omega)))
  simp only [List.drop_succ_cons, List.drop_zero, List.drop_nil]
  go_wp2
  have hp1 := hb1.size
  have hp2 := hb2.size
  simp only [World.size_alloc] at hp1 hp2
  have k10 := HK4_8.out
  refine Free.wp_each (d := 11) (gf := 88) (fb := #[obV nm bd (some ⟨b, off, none⟩) l.length cap]) (v := fun k => .int .i64 (frstT l + k)) (N := N) (n₀ := w.heap.size) rfl (enters_of Try.func88 (by kernel_rfl) rfl)
    (HEA.out _ _ (by omega) (by omega) (HM.out.below (B := w.heap.size) (by repeat' first | with_reducible exact Below.refl _ _ | with_reducible assumption | with_reducible refine Free.Grow.alloc ?_ _ | with_reducible refine Free.Grow.setCell ?_ (by first | omega | (simp; done) | (simp; omega)) _ | with_reducible refine Free.Grow.drew ?_ | with_reducible refine Free.Grow.trans ?_ (by assumption)) hbw)) (by omega)
    (fun k W => Below w.heap.size w W ∧ W.heap[w1.heap.size]? = some (.cells #[.string nm, .int .i64 bd, .slice (some ⟨b, off, none⟩) l.length cap] 118 (0, 0)) ∧ W.heap[w.heap.size + 1]? = some (.cells #[.int .i64 x, .int .i64 y, .int .i64 z] 26 (0, 0)) ∧
      W.heap[w.heap.size + 1 + 1]? = some (.cells #[.int .i64 lo, .int .i64 hi, .int .i64 wi] 58 (0, 0)) ∧ W.heap[b4_8]? = some (.cells #[.int .i64 most] 3 (0, 0)) ∧
      W.heap[w.heap.size + 1 + 1 + 1]? = some (.cells #[.int .i64 0] 3 (0, 0)) ∧ W.heap[w.heap.size + 1 + 1 + 1 + 1]? = some (.cells #[.int .i64 0] 30 (0, 0)) ∧ (∀ j, j < k → bad (frstT l + j) = false))
    (fun _ W => Below w.heap.size w W ∧ W.heap[w.heap.size + 1 + 1 + 1]? = some (.cells #[.int .i64 0] 3 (0, 0)) ∧ W.heap[w.heap.size + 1 + 1 + 1 + 1]? = some (.cells #[.int .i64 22] 30 (0, 0)) ∧ cnAny bad (frstT l) N = true)
    (Free.Bides.and (Free.Bides.below (Nat.le_refl _) (by omega)) (Free.Bides.and (Free.Bides.block (fun _ => _) (by omega)) (Free.Bides.and (Free.Bides.block (fun _ => _) (by omega)) (Free.Bides.and (Free.Bides.block (fun _ => _) (by omega)) (Free.Bides.and (Free.Bides.block (fun _ => _) (by omega)) (Free.Bides.and (Free.Bides.block (fun _ => _) (by omega)) (Free.Bides.and (Free.Bides.block (fun _ => _) (by omega)) (Free.Bides.pure _))))))))
    (Free.Bides.and (Free.Bides.below (Nat.le_refl _) (by omega)) (Free.Bides.and (Free.Bides.block (fun _ => _) (by omega)) (Free.Bides.and (Free.Bides.block (fun _ => _) (by omega)) (Free.Bides.pure _)))) ?h0 ?assign ?body ?done ?ret
  case h0 => exact ⟨by repeat' first | with_reducible exact Below.refl _ _ | with_reducible assumption | with_reducible refine Free.Grow.alloc ?_ _ | with_reducible refine Free.Grow.setCell ?_ (by first | omega | (simp; done) | (simp; omega)) _ | with_reducible refine Free.Grow.drew ?_ | with_reducible refine Free.Grow.trans ?_ (by assumption), by repeat' first | with_reducible assumption | with_reducible exact Free.blk_new _ (by first | rfl | (simp; done)) | with_reducible refine Free.blk_alloc_old ?_ | with_reducible refine Free.blk_drew ?_ | with_reducible refine Free.blk_setCell_far ?_ (by first | omega | (simp; done) | (simp; omega)) _ | with_reducible apply Free.blk_setCell_to | (show Array.setIfInBounds _ _ _ = _; first | exact rfl | (simp; done)) | with_reducible refine Free.blk_below ?_ (by assumption), by repeat' first | with_reducible assumption | with_reducible exact Free.blk_new _ (by first | rfl | (simp; done)) | with_reducible refine Free.blk_alloc_old ?_ | with_reducible refine Free.blk_drew ?_ | with_reducible refine Free.blk_setCell_far ?_ (by first | omega | (simp; done) | (simp; omega)) _ | with_reducible apply Free.blk_setCell_to | (show Array.setIfInBounds _ _ _ = _; first | exact rfl | (simp; done)) | with_reducible refine Free.blk_below ?_ (by assumption), by repeat' first | with_reducible assumption | with_reducible exact Free.blk_new _ (by first | rfl | (simp; done)) | with_reducible refine Free.blk_alloc_old ?_ | with_reducible refine Free.blk_drew ?_ | with_reducible refine Free.blk_setCell_far ?_ (by first | omega | (simp; done) | (simp; omega)) _ | with_reducible apply Free.blk_setCell_to | (show Array.setIfInBounds _ _ _ = _; first | exact rfl | (simp; done)) | with_reducible refine Free.blk_below ?_ (by assumption), k10, by repeat' first | with_reducible assumption | with_reducible exact Free.blk_new _ (by first | rfl | (simp; done)) | with_reducible refine Free.blk_alloc_old ?_ | with_reducible refine Free.blk_drew ?_ | with_reducible refine Free.blk_setCell_far ?_ (by first | omega | (simp; done) | (simp; omega)) _ | with_reducible apply Free.blk_setCell_to | (show Array.setIfInBounds _ _ _ = _; first | exact rfl | (simp; done)) | with_reducible refine Free.blk_below ?_ (by assumption), by repeat' first | with_reducible assumption | with_reducible exact Free.blk_new _ (by first | rfl | (simp; done)) | with_reducible refine Free.blk_alloc_old ?_ | with_reducible refine Free.blk_drew ?_ | with_reducible refine Free.blk_setCell_far ?_ (by first | omega | (simp; done) | (simp; omega)) _ | with_reducible apply Free.blk_setCell_to | (show Array.setIfInBounds _ _ _ = _; first | exact rfl | (simp; done)) | with_reducible refine Free.blk_below ?_ (by assumption), fun j hj => by omega⟩
  case assign =>
    intro lp k W K hK
    simp only [Free.setTo, List.setIfInBounds_toArray, List.set_cons_zero, List.set_cons_succ] at hK ⊢
    gi_wp2
    exact hK
  case body =>
    rintro lp k W hWz ⟨hBW, k8, k4, k5, k10, k6, k7, hall⟩ hk
    have c8 := Free.cell_of_blk k8
    have c4 := Free.cell_of_blk k4
    have c5 := Free.cell_of_blk k5
    have c10 := Free.cell_of_blk k10
    have c6 := Free.cell_of_blk k6
    have c7 := Free.cell_of_blk k7
    have l8 := Free.lt_of_blk k8
    have l4 := Free.lt_of_blk k4
    have l5 := Free.lt_of_blk k5
    have l10 := Free.lt_of_blk k10
    have l6 := Free.lt_of_blk k6
    have l7 := Free.lt_of_blk k7
    have f6 := Free.frozen_of_blk k6
    have f7 := Free.frozen_of_blk k7
    have hWs := hBW.size
    have HALL := Lib.hid hall
    have HBt := Lib.hid (HBad.out (frstT l + k))
    have HWt := Lib.hid (fun w => within_any (frstT l + k) lo hi w)
    have HBk' := Lib.hid (HBk.out k hk)
    have HSk' := Lib.hid (HSk.out k hk)
    have HS := Lib.hid (HM.out.below (B := w.heap.size) hBW hbw)
    have HT := Lib.hid (fun h => @cnAny_true bad (frstT l) N k hk h)
    clear hall
    simp only [Free.setTo, List.setIfInBounds_toArray, List.set_cons_zero, List.set_cons_succ]
    cases hin : rngB (frstT l + k) lo hi with
    | true =>
      rw [hin] at HBt HWt
      have HF : Hid (∀ j, j < k + 1 → bad (frstT l + j) = false) := fun j hj => by
        by_cases e : j = k
        · subst e; have := HBt.out; simpa using this
        · exact HALL.out j (by omega)
      clear hin HBt
      gi_wp2
      refine Free.wpIn_region 20 #[0, 0, 2, 6, 0, 16, 48, 127, 255, 511, 1023, 1023, 4095, 1023, 16383, 32767, 65535, 1023, 262143, 524287] (by kernel_rfl) (by kernel_rfl) (by rintro ⟨_, _, h⟩; exact h) ?_
      simp only [List.take_succ_cons, List.take_zero]
      iterate 10
        refine Free.E.q (by rfl) ?_
        apply Exists.intro
        refine ⟨fun u w' hc hb => ?_, ?_⟩
        go_simp
        (try go_ints); (try simp only [Ob.ite_imx, Ob.ite_imn]); first | exact rfl | (go_simp; exact rfl) | ((go_at_call 89; with_reducible exact Free.Calls.grow (HWt.out _))) | (simp only [↓IntWalk.iteOmega]; (try go_simp); exact rfl)
        simp only [Act.put, List.setIfInBounds_toArray, List.set_cons_zero, List.set_cons_succ, List.nil_append, List.cons_append]
      iterate 9
        first
          | (refine Free.E.no ?_ ?_
             (intro _; rfl)
             simp only [Act.put, List.setIfInBounds_toArray, List.set_cons_zero, List.set_cons_succ, List.nil_append, List.cons_append])
          | (refine Free.E.qy ?_ ?_
             (intro _; rfl)
             apply Exists.intro
             refine ⟨fun u w' hc hb => ?_, ?_⟩
             go_simp
             (try go_ints); (try simp only [Ob.ite_imx, Ob.ite_imn]); first | exact rfl | (go_simp; exact rfl) | ((go_at_call 89; with_reducible exact Free.Calls.grow (HWt.out _))) | (simp only [↓IntWalk.iteOmega]; (try go_simp); exact rfl)
             simp only [Act.put, List.setIfInBounds_toArray, List.set_cons_zero, List.set_cons_succ, List.nil_append, List.cons_append])
      iterate 1
        refine Free.E.q (by rfl) ?_
        apply Exists.intro
        refine ⟨fun u w' hc hb => ?_, ?_⟩
        go_simp
        (try go_ints); (try simp only [Ob.ite_imx, Ob.ite_imn]); first | exact rfl | (go_simp; exact rfl) | ((go_at_call 89; with_reducible exact Free.Calls.grow (HWt.out _))) | (simp only [↓IntWalk.iteOmega]; (try go_simp); exact rfl)
        simp only [Act.put, List.setIfInBounds_toArray, List.set_cons_zero, List.set_cons_succ, List.nil_append, List.cons_append]
      refine Free.E.nil (fun u w5 S hF => ?_)
      have hb5 := hF.below
      clear hF
      have hc5 := (Free.cells_of hb5).1
      have hf5 := (Free.cells_of hb5).2
      have hz5 := hb5.size
      try simp only [World.size_alloc, World.size_setCell, World.size_drew] at hz5
      (try (have : w.heap.size < w5.heap.size := (by omega)))
      (try (have : w.heap.size < w5.heap.size + 1 := (by omega)))
      (try (have : w.heap.size < w5.heap.size + 1 + 1 := (by omega)))
      (try (have : w.heap.size + 1 < w5.heap.size := (by omega)))
      (try (have : w.heap.size + 1 < w5.heap.size + 1 := (by omega)))
      (try (have : w.heap.size + 1 < w5.heap.size + 1 + 1 := (by omega)))
      (try (have : w.heap.size + 1 + 1 < w5.heap.size := (by omega)))
      (try (have : w.heap.size + 1 + 1 < w5.heap.size + 1 := (by omega)))
      (try (have : w.heap.size + 1 + 1 < w5.heap.size + 1 + 1 := (by omega)))
      (try (have : w.heap.size + 1 + 1 + 1 < w5.heap.size := (by omega)))
      (try (have : w.heap.size + 1 + 1 + 1 < w5.heap.size + 1 := (by omega)))
      (try (have : w.heap.size + 1 + 1 + 1 < w5.heap.size + 1 + 1 := (by omega)))
      (try (have : w.heap.size + 1 + 1 + 1 + 1 < w5.heap.size := (by omega)))
      (try (have : w.heap.size + 1 + 1 + 1 + 1 < w5.heap.size + 1 := (by omega)))
      (try (have : w.heap.size + 1 + 1 + 1 + 1 < w5.heap.size + 1 + 1 := (by omega)))
      (try (have : w.heap.size + 1 + 1 + 1 + 1 + 1 < w5.heap.size := (by omega)))
      (try (have : w.heap.size + 1 + 1 + 1 + 1 + 1 < w5.heap.size + 1 := (by omega)))
      (try (have : w.heap.size + 1 + 1 + 1 + 1 + 1 < w5.heap.size + 1 + 1 := (by omega)))
      (try (have : w1.heap.size < w5.heap.size := (by omega)))
      (try (have : w1.heap.size < w5.heap.size + 1 := (by omega)))
      (try (have : w1.heap.size < w5.heap.size + 1 + 1 := (by omega)))
      (try (have : w1.heap.size + 1 < w5.heap.size := (by omega)))
      (try (have : w1.heap.size + 1 < w5.heap.size + 1 := (by omega)))
      (try (have : w1.heap.size + 1 < w5.heap.size + 1 + 1 := (by omega)))
      (try (have : w1.heap.size + 1 + 1 < w5.heap.size := (by omega)))
      (try (have : w1.heap.size + 1 + 1 < w5.heap.size + 1 := (by omega)))
      (try (have : w1.heap.size + 1 + 1 < w5.heap.size + 1 + 1 := (by omega)))
      (try (have : w1.heap.size + 1 + 1 + 1 < w5.heap.size := (by omega)))
      (try (have : w1.heap.size + 1 + 1 + 1 < w5.heap.size + 1 := (by omega)))
      (try (have : w1.heap.size + 1 + 1 + 1 < w5.heap.size + 1 + 1 := (by omega)))
      (try (have : w2.heap.size < w5.heap.size := (by omega)))
      (try (have : w2.heap.size < w5.heap.size + 1 := (by omega)))
      (try (have : w2.heap.size < w5.heap.size + 1 + 1 := (by omega)))
      (try (have : w2.heap.size + 1 < w5.heap.size := (by omega)))
      (try (have : w2.heap.size + 1 < w5.heap.size + 1 := (by omega)))
      (try (have : w2.heap.size + 1 < w5.heap.size + 1 + 1 := (by omega)))
      (try (have : w2.heap.size + 1 + 1 < w5.heap.size := (by omega)))
      (try (have : w2.heap.size + 1 + 1 < w5.heap.size + 1 := (by omega)))
      (try (have : w2.heap.size + 1 + 1 < w5.heap.size + 1 + 1 := (by omega)))
      (try (have : w2.heap.size + 1 + 1 + 1 < w5.heap.size := (by omega)))
      (try (have : w2.heap.size + 1 + 1 + 1 < w5.heap.size + 1 := (by omega)))
      (try (have : w2.heap.size + 1 + 1 + 1 < w5.heap.size + 1 + 1 := (by omega)))
      (try (have : W.heap.size < w5.heap.size := (by omega)))
      (try (have : W.heap.size < w5.heap.size + 1 := (by omega)))
      (try (have : W.heap.size < w5.heap.size + 1 + 1 := (by omega)))
      (try (have : W.heap.size + 1 < w5.heap.size := (by omega)))
      (try (have : W.heap.size + 1 < w5.heap.size + 1 := (by omega)))
      (try (have : W.heap.size + 1 < w5.heap.size + 1 + 1 := (by omega)))
      (try (have : W.heap.size + 1 + 1 < w5.heap.size := (by omega)))
      (try (have : W.heap.size + 1 + 1 < w5.heap.size + 1 := (by omega)))
      (try (have : W.heap.size + 1 + 1 < w5.heap.size + 1 + 1 := (by omega)))
      (try (have : W.heap.size + 1 + 1 + 1 < w5.heap.size := (by omega)))
      (try (have : W.heap.size + 1 + 1 + 1 < w5.heap.size + 1 := (by omega)))
      (try (have : W.heap.size + 1 + 1 + 1 < w5.heap.size + 1 + 1 := (by omega)))
      simp only [List.drop_succ_cons, List.drop_zero, List.drop_nil]
      go_wp2
      gi_wp2
      refine ⟨by repeat' first | with_reducible exact Free.Keeps.refl _ _ _ | with_reducible assumption | with_reducible refine Free.Keeps.setCell ?_ (by first | omega | (simp; done) | (simp; omega)) _ | with_reducible refine Free.Keeps.alloc ?_ _ | with_reducible refine Free.Keeps.drew ?_ | with_reducible refine Free.Keeps.grow ?_ (by assumption), by repeat' first | with_reducible exact Below.refl _ _ | with_reducible assumption | with_reducible refine Free.Grow.alloc ?_ _ | with_reducible refine Free.Grow.setCell ?_ (by first | omega | (simp; done) | (simp; omega)) _ | with_reducible refine Free.Grow.drew ?_ | with_reducible refine Free.Grow.trans ?_ (by assumption), by repeat' first | with_reducible assumption | with_reducible exact Free.blk_new _ (by first | rfl | (simp; done)) | with_reducible refine Free.blk_alloc_old ?_ | with_reducible refine Free.blk_drew ?_ | with_reducible refine Free.blk_setCell_far ?_ (by first | omega | (simp; done) | (simp; omega)) _ | with_reducible apply Free.blk_setCell_to | (show Array.setIfInBounds _ _ _ = _; first | exact rfl | (simp; done)) | with_reducible refine Free.blk_below ?_ (by assumption), by repeat' first | with_reducible assumption | with_reducible exact Free.blk_new _ (by first | rfl | (simp; done)) | with_reducible refine Free.blk_alloc_old ?_ | with_reducible refine Free.blk_drew ?_ | with_reducible refine Free.blk_setCell_far ?_ (by first | omega | (simp; done) | (simp; omega)) _ | with_reducible apply Free.blk_setCell_to | (show Array.setIfInBounds _ _ _ = _; first | exact rfl | (simp; done)) | with_reducible refine Free.blk_below ?_ (by assumption), by repeat' first | with_reducible assumption | with_reducible exact Free.blk_new _ (by first | rfl | (simp; done)) | with_reducible refine Free.blk_alloc_old ?_ | with_reducible refine Free.blk_drew ?_ | with_reducible refine Free.blk_setCell_far ?_ (by first | omega | (simp; done) | (simp; omega)) _ | with_reducible apply Free.blk_setCell_to | (show Array.setIfInBounds _ _ _ = _; first | exact rfl | (simp; done)) | with_reducible refine Free.blk_below ?_ (by assumption), by repeat' first | with_reducible assumption | with_reducible exact Free.blk_new _ (by first | rfl | (simp; done)) | with_reducible refine Free.blk_alloc_old ?_ | with_reducible refine Free.blk_drew ?_ | with_reducible refine Free.blk_setCell_far ?_ (by first | omega | (simp; done) | (simp; omega)) _ | with_reducible apply Free.blk_setCell_to | (show Array.setIfInBounds _ _ _ = _; first | exact rfl | (simp; done)) | with_reducible refine Free.blk_below ?_ (by assumption), by repeat' first | with_reducible assumption | with_reducible exact Free.blk_new _ (by first | rfl | (simp; done)) | with_reducible refine Free.blk_alloc_old ?_ | with_reducible refine Free.blk_drew ?_ | with_reducible refine Free.blk_setCell_far ?_ (by first | omega | (simp; done) | (simp; omega)) _ | with_reducible apply Free.blk_setCell_to | (show Array.setIfInBounds _ _ _ = _; first | exact rfl | (simp; done)) | with_reducible refine Free.blk_below ?_ (by assumption), by repeat' first | with_reducible assumption | with_reducible exact Free.blk_new _ (by first | rfl | (simp; done)) | with_reducible refine Free.blk_alloc_old ?_ | with_reducible refine Free.blk_drew ?_ | with_reducible refine Free.blk_setCell_far ?_ (by first | omega | (simp; done) | (simp; omega)) _ | with_reducible apply Free.blk_setCell_to | (show Array.setIfInBounds _ _ _ = _; first | exact rfl | (simp; done)) | with_reducible refine Free.blk_below ?_ (by assumption), HF.out⟩
    | false =>
      rw [hin] at HBt HWt
      generalize bx bd l (frstT l + k) = q at *
      by_cases hm : sqLo q x y z ≤ most
      · have HTT := Lib.hid (HT.out (by have := HBt.out; simpa [hm] using this))
        have HM2 := Lib.hid hm
        clear hin HBt
        gi_wp2
        refine Free.wpIn_region 20 #[0, 0, 2, 6, 0, 16, 48, 127, 255, 511, 1023, 1023, 4095, 1023, 16383, 32767, 65535, 1023, 262143, 524287] (by kernel_rfl) (by kernel_rfl) (by rintro ⟨_, _, h⟩; exact h) ?_
        simp only [List.take_succ_cons, List.take_zero]
        iterate 10
          refine Free.E.q (by rfl) ?_
          apply Exists.intro
          refine ⟨fun u w' hc hb => ?_, ?_⟩
          go_simp
          (try go_ints); (try simp only [Ob.ite_imx, Ob.ite_imn]); first | exact rfl | (go_simp; exact rfl) | ((go_at_call 89; with_reducible exact Free.Calls.grow (HWt.out _))) | ((go_at_call 82; with_reducible exact HBk'.out _ (HS.out.below (B := W.heap.size) hb (by omega)) (by have := hb.size; omega))) | ((go_at_call 76; exact vectorOf_any _ _ _ _)) | ((go_at_call 87; with_reducible exact HSk'.out _)) | (simp only [↓IntWalk.iteOmega]; (try go_simp); exact rfl)
          simp only [Act.put, List.setIfInBounds_toArray, List.set_cons_zero, List.set_cons_succ, List.nil_append, List.cons_append]
        iterate 9
          first
            | (refine Free.E.no ?_ ?_
               (intro _; rfl)
               simp only [Act.put, List.setIfInBounds_toArray, List.set_cons_zero, List.set_cons_succ, List.nil_append, List.cons_append])
            | (refine Free.E.qy ?_ ?_
               (intro _; rfl)
               apply Exists.intro
               refine ⟨fun u w' hc hb => ?_, ?_⟩
               go_simp
               (try go_ints); (try simp only [Ob.ite_imx, Ob.ite_imn]); first | exact rfl | (go_simp; exact rfl) | ((go_at_call 89; with_reducible exact Free.Calls.grow (HWt.out _))) | ((go_at_call 82; with_reducible exact HBk'.out _ (HS.out.below (B := W.heap.size) hb (by omega)) (by have := hb.size; omega))) | ((go_at_call 76; exact vectorOf_any _ _ _ _)) | ((go_at_call 87; with_reducible exact HSk'.out _)) | (simp only [↓IntWalk.iteOmega]; (try go_simp); exact rfl)
               simp only [Act.put, List.setIfInBounds_toArray, List.set_cons_zero, List.set_cons_succ, List.nil_append, List.cons_append])
        iterate 1
          refine Free.E.q (by rfl) ?_
          apply Exists.intro
          refine ⟨fun u w' hc hb => ?_, ?_⟩
          go_simp
          (try go_ints); (try simp only [Ob.ite_imx, Ob.ite_imn]); first | exact rfl | (go_simp; exact rfl) | ((go_at_call 89; with_reducible exact Free.Calls.grow (HWt.out _))) | ((go_at_call 82; with_reducible exact HBk'.out _ (HS.out.below (B := W.heap.size) hb (by omega)) (by have := hb.size; omega))) | ((go_at_call 76; exact vectorOf_any _ _ _ _)) | ((go_at_call 87; with_reducible exact HSk'.out _)) | (simp only [↓IntWalk.iteOmega]; (try go_simp); exact rfl)
          simp only [Act.put, List.setIfInBounds_toArray, List.set_cons_zero, List.set_cons_succ, List.nil_append, List.cons_append]
        refine Free.E.nil (fun u w5 S hF => ?_)
        have hb5 := hF.below
        clear hF
        have hc5 := (Free.cells_of hb5).1
        have hf5 := (Free.cells_of hb5).2
        have hz5 := hb5.size
        try simp only [World.size_alloc, World.size_setCell, World.size_drew] at hz5
        (try (have : w.heap.size < w5.heap.size := (by omega)))
        (try (have : w.heap.size < w5.heap.size + 1 := (by omega)))
        (try (have : w.heap.size < w5.heap.size + 1 + 1 := (by omega)))
        (try (have : w.heap.size + 1 < w5.heap.size := (by omega)))
        (try (have : w.heap.size + 1 < w5.heap.size + 1 := (by omega)))
        (try (have : w.heap.size + 1 < w5.heap.size + 1 + 1 := (by omega)))
        (try (have : w.heap.size + 1 + 1 < w5.heap.size := (by omega)))
        (try (have : w.heap.size + 1 + 1 < w5.heap.size + 1 := (by omega)))
        (try (have : w.heap.size + 1 + 1 < w5.heap.size + 1 + 1 := (by omega)))
        (try (have : w.heap.size + 1 + 1 + 1 < w5.heap.size := (by omega)))
        (try (have : w.heap.size + 1 + 1 + 1 < w5.heap.size + 1 := (by omega)))
        (try (have : w.heap.size + 1 + 1 + 1 < w5.heap.size + 1 + 1 := (by omega)))
        (try (have : w.heap.size + 1 + 1 + 1 + 1 < w5.heap.size := (by omega)))
        (try (have : w.heap.size + 1 + 1 + 1 + 1 < w5.heap.size + 1 := (by omega)))
        (try (have : w.heap.size + 1 + 1 + 1 + 1 < w5.heap.size + 1 + 1 := (by omega)))
        (try (have : w.heap.size + 1 + 1 + 1 + 1 + 1 < w5.heap.size := (by omega)))
        (try (have : w.heap.size + 1 + 1 + 1 + 1 + 1 < w5.heap.size + 1 := (by omega)))
        (try (have : w.heap.size + 1 + 1 + 1 + 1 + 1 < w5.heap.size + 1 + 1 := (by omega)))
        (try (have : w1.heap.size < w5.heap.size := (by omega)))
        (try (have : w1.heap.size < w5.heap.size + 1 := (by omega)))
        (try (have : w1.heap.size < w5.heap.size + 1 + 1 := (by omega)))
        (try (have : w1.heap.size + 1 < w5.heap.size := (by omega)))
        (try (have : w1.heap.size + 1 < w5.heap.size + 1 := (by omega)))
        (try (have : w1.heap.size + 1 < w5.heap.size + 1 + 1 := (by omega)))
        (try (have : w1.heap.size + 1 + 1 < w5.heap.size := (by omega)))
        (try (have : w1.heap.size + 1 + 1 < w5.heap.size + 1 := (by omega)))
        (try (have : w1.heap.size + 1 + 1 < w5.heap.size + 1 + 1 := (by omega)))
        (try (have : w1.heap.size + 1 + 1 + 1 < w5.heap.size := (by omega)))
        (try (have : w1.heap.size + 1 + 1 + 1 < w5.heap.size + 1 := (by omega)))
        (try (have : w1.heap.size + 1 + 1 + 1 < w5.heap.size + 1 + 1 := (by omega)))
        (try (have : w2.heap.size < w5.heap.size := (by omega)))
        (try (have : w2.heap.size < w5.heap.size + 1 := (by omega)))
        (try (have : w2.heap.size < w5.heap.size + 1 + 1 := (by omega)))
        (try (have : w2.heap.size + 1 < w5.heap.size := (by omega)))
        (try (have : w2.heap.size + 1 < w5.heap.size + 1 := (by omega)))
        (try (have : w2.heap.size + 1 < w5.heap.size + 1 + 1 := (by omega)))
        (try (have : w2.heap.size + 1 + 1 < w5.heap.size := (by omega)))
        (try (have : w2.heap.size + 1 + 1 < w5.heap.size + 1 := (by omega)))
        (try (have : w2.heap.size + 1 + 1 < w5.heap.size + 1 + 1 := (by omega)))
        (try (have : w2.heap.size + 1 + 1 + 1 < w5.heap.size := (by omega)))
        (try (have : w2.heap.size + 1 + 1 + 1 < w5.heap.size + 1 := (by omega)))
        (try (have : w2.heap.size + 1 + 1 + 1 < w5.heap.size + 1 + 1 := (by omega)))
        (try (have : W.heap.size < w5.heap.size := (by omega)))
        (try (have : W.heap.size < w5.heap.size + 1 := (by omega)))
        (try (have : W.heap.size < w5.heap.size + 1 + 1 := (by omega)))
        (try (have : W.heap.size + 1 < w5.heap.size := (by omega)))
        (try (have : W.heap.size + 1 < w5.heap.size + 1 := (by omega)))
        (try (have : W.heap.size + 1 < w5.heap.size + 1 + 1 := (by omega)))
        (try (have : W.heap.size + 1 + 1 < w5.heap.size := (by omega)))
        (try (have : W.heap.size + 1 + 1 < w5.heap.size + 1 := (by omega)))
        (try (have : W.heap.size + 1 + 1 < w5.heap.size + 1 + 1 := (by omega)))
        (try (have : W.heap.size + 1 + 1 + 1 < w5.heap.size := (by omega)))
        (try (have : W.heap.size + 1 + 1 + 1 < w5.heap.size + 1 := (by omega)))
        (try (have : W.heap.size + 1 + 1 + 1 < w5.heap.size + 1 + 1 := (by omega)))
        (try (have : b4_8 < w5.heap.size := (by omega)))
        (try (have : b4_8 < w5.heap.size + 1 := (by omega)))
        (try (have : b4_8 < w5.heap.size + 1 + 1 := (by omega)))
        simp only [List.drop_succ_cons, List.drop_zero, List.drop_nil]
        have hm := HM2.out
        go_wp2
        gi_wp2
        refine ⟨by repeat' first | with_reducible exact Free.Keeps.refl _ _ _ | with_reducible assumption | with_reducible refine Free.Keeps.setCell ?_ (by first | omega | (simp; done) | (simp; omega)) _ | with_reducible refine Free.Keeps.alloc ?_ _ | with_reducible refine Free.Keeps.drew ?_ | with_reducible refine Free.Keeps.grow ?_ (by assumption), by repeat' first | with_reducible exact Below.refl _ _ | with_reducible assumption | with_reducible refine Free.Grow.alloc ?_ _ | with_reducible refine Free.Grow.setCell ?_ (by first | omega | (simp; done) | (simp; omega)) _ | with_reducible refine Free.Grow.drew ?_ | with_reducible refine Free.Grow.trans ?_ (by assumption), by repeat' first | with_reducible assumption | with_reducible exact Free.blk_new _ (by first | rfl | (simp; done)) | with_reducible refine Free.blk_alloc_old ?_ | with_reducible refine Free.blk_drew ?_ | with_reducible refine Free.blk_setCell_far ?_ (by first | omega | (simp; done) | (simp; omega)) _ | with_reducible apply Free.blk_setCell_to | (show Array.setIfInBounds _ _ _ = _; first | exact rfl | (simp; done)) | with_reducible refine Free.blk_below ?_ (by assumption), by repeat' first | with_reducible assumption | with_reducible exact Free.blk_new _ (by first | rfl | (simp; done)) | with_reducible refine Free.blk_alloc_old ?_ | with_reducible refine Free.blk_drew ?_ | with_reducible refine Free.blk_setCell_far ?_ (by first | omega | (simp; done) | (simp; omega)) _ | with_reducible apply Free.blk_setCell_to | (show Array.setIfInBounds _ _ _ = _; first | exact rfl | (simp; done)) | with_reducible refine Free.blk_below ?_ (by assumption), HTT.out⟩
      · have HF : Hid (∀ j, j < k + 1 → bad (frstT l + j) = false) := fun j hj => by
          by_cases e : j = k
          · subst e; have := HBt.out; simpa [hm] using this
          · exact HALL.out j (by omega)
        have HM2 := Lib.hid hm
        clear hin HBt
        gi_wp2
        refine Free.wpIn_region 20 #[0, 0, 2, 6, 0, 16, 48, 127, 255, 511, 1023, 1023, 4095, 1023, 16383, 32767, 65535, 1023, 262143, 524287] (by kernel_rfl) (by kernel_rfl) (by rintro ⟨_, _, h⟩; exact h) ?_
        simp only [List.take_succ_cons, List.take_zero]
        iterate 10
          refine Free.E.q (by rfl) ?_
          apply Exists.intro
          refine ⟨fun u w' hc hb => ?_, ?_⟩
          go_simp
          (try go_ints); (try simp only [Ob.ite_imx, Ob.ite_imn]); first | exact rfl | (go_simp; exact rfl) | ((go_at_call 89; with_reducible exact Free.Calls.grow (HWt.out _))) | ((go_at_call 82; with_reducible exact HBk'.out _ (HS.out.below (B := W.heap.size) hb (by omega)) (by have := hb.size; omega))) | ((go_at_call 76; exact vectorOf_any _ _ _ _)) | ((go_at_call 87; with_reducible exact HSk'.out _)) | (simp only [↓IntWalk.iteOmega]; (try go_simp); exact rfl)
          simp only [Act.put, List.setIfInBounds_toArray, List.set_cons_zero, List.set_cons_succ, List.nil_append, List.cons_append]
        iterate 9
          first
            | (refine Free.E.no ?_ ?_
               (intro _; rfl)
               simp only [Act.put, List.setIfInBounds_toArray, List.set_cons_zero, List.set_cons_succ, List.nil_append, List.cons_append])
            | (refine Free.E.qy ?_ ?_
               (intro _; rfl)
               apply Exists.intro
               refine ⟨fun u w' hc hb => ?_, ?_⟩
               go_simp
               (try go_ints); (try simp only [Ob.ite_imx, Ob.ite_imn]); first | exact rfl | (go_simp; exact rfl) | ((go_at_call 89; with_reducible exact Free.Calls.grow (HWt.out _))) | ((go_at_call 82; with_reducible exact HBk'.out _ (HS.out.below (B := W.heap.size) hb (by omega)) (by have := hb.size; omega))) | ((go_at_call 76; exact vectorOf_any _ _ _ _)) | ((go_at_call 87; with_reducible exact HSk'.out _)) | (simp only [↓IntWalk.iteOmega]; (try go_simp); exact rfl)
               simp only [Act.put, List.setIfInBounds_toArray, List.set_cons_zero, List.set_cons_succ, List.nil_append, List.cons_append])
        iterate 1
          refine Free.E.q (by rfl) ?_
          apply Exists.intro
          refine ⟨fun u w' hc hb => ?_, ?_⟩
          go_simp
          (try go_ints); (try simp only [Ob.ite_imx, Ob.ite_imn]); first | exact rfl | (go_simp; exact rfl) | ((go_at_call 89; with_reducible exact Free.Calls.grow (HWt.out _))) | ((go_at_call 82; with_reducible exact HBk'.out _ (HS.out.below (B := W.heap.size) hb (by omega)) (by have := hb.size; omega))) | ((go_at_call 76; exact vectorOf_any _ _ _ _)) | ((go_at_call 87; with_reducible exact HSk'.out _)) | (simp only [↓IntWalk.iteOmega]; (try go_simp); exact rfl)
          simp only [Act.put, List.setIfInBounds_toArray, List.set_cons_zero, List.set_cons_succ, List.nil_append, List.cons_append]
        refine Free.E.nil (fun u w5 S hF => ?_)
        have hb5 := hF.below
        clear hF
        have hc5 := (Free.cells_of hb5).1
        have hf5 := (Free.cells_of hb5).2
        have hz5 := hb5.size
        try simp only [World.size_alloc, World.size_setCell, World.size_drew] at hz5
        (try (have : w.heap.size < w5.heap.size := (by omega)))
        (try (have : w.heap.size < w5.heap.size + 1 := (by omega)))
        (try (have : w.heap.size < w5.heap.size + 1 + 1 := (by omega)))
        (try (have : w.heap.size + 1 < w5.heap.size := (by omega)))
        (try (have : w.heap.size + 1 < w5.heap.size + 1 := (by omega)))
        (try (have : w.heap.size + 1 < w5.heap.size + 1 + 1 := (by omega)))
        (try (have : w.heap.size + 1 + 1 < w5.heap.size := (by omega)))
        (try (have : w.heap.size + 1 + 1 < w5.heap.size + 1 := (by omega)))
        (try (have : w.heap.size + 1 + 1 < w5.heap.size + 1 + 1 := (by omega)))
        (try (have : w.heap.size + 1 + 1 + 1 < w5.heap.size := (by omega)))
        (try (have : w.heap.size + 1 + 1 + 1 < w5.heap.size + 1 := (by omega)))
        (try (have : w.heap.size + 1 + 1 + 1 < w5.heap.size + 1 + 1 := (by omega)))
        (try (have : w.heap.size + 1 + 1 + 1 + 1 < w5.heap.size := (by omega)))
        (try (have : w.heap.size + 1 + 1 + 1 + 1 < w5.heap.size + 1 := (by omega)))
        (try (have : w.heap.size + 1 + 1 + 1 + 1 < w5.heap.size + 1 + 1 := (by omega)))
        (try (have : w.heap.size + 1 + 1 + 1 + 1 + 1 < w5.heap.size := (by omega)))
        (try (have : w.heap.size + 1 + 1 + 1 + 1 + 1 < w5.heap.size + 1 := (by omega)))
        (try (have : w.heap.size + 1 + 1 + 1 + 1 + 1 < w5.heap.size + 1 + 1 := (by omega)))
        (try (have : w1.heap.size < w5.heap.size := (by omega)))
        (try (have : w1.heap.size < w5.heap.size + 1 := (by omega)))
        (try (have : w1.heap.size < w5.heap.size + 1 + 1 := (by omega)))
        (try (have : w1.heap.size + 1 < w5.heap.size := (by omega)))
        (try (have : w1.heap.size + 1 < w5.heap.size + 1 := (by omega)))
        (try (have : w1.heap.size + 1 < w5.heap.size + 1 + 1 := (by omega)))
        (try (have : w1.heap.size + 1 + 1 < w5.heap.size := (by omega)))
        (try (have : w1.heap.size + 1 + 1 < w5.heap.size + 1 := (by omega)))
        (try (have : w1.heap.size + 1 + 1 < w5.heap.size + 1 + 1 := (by omega)))
        (try (have : w1.heap.size + 1 + 1 + 1 < w5.heap.size := (by omega)))
        (try (have : w1.heap.size + 1 + 1 + 1 < w5.heap.size + 1 := (by omega)))
        (try (have : w1.heap.size + 1 + 1 + 1 < w5.heap.size + 1 + 1 := (by omega)))
        (try (have : w2.heap.size < w5.heap.size := (by omega)))
        (try (have : w2.heap.size < w5.heap.size + 1 := (by omega)))
        (try (have : w2.heap.size < w5.heap.size + 1 + 1 := (by omega)))
        (try (have : w2.heap.size + 1 < w5.heap.size := (by omega)))
        (try (have : w2.heap.size + 1 < w5.heap.size + 1 := (by omega)))
        (try (have : w2.heap.size + 1 < w5.heap.size + 1 + 1 := (by omega)))
        (try (have : w2.heap.size + 1 + 1 < w5.heap.size := (by omega)))
        (try (have : w2.heap.size + 1 + 1 < w5.heap.size + 1 := (by omega)))
        (try (have : w2.heap.size + 1 + 1 < w5.heap.size + 1 + 1 := (by omega)))
        (try (have : w2.heap.size + 1 + 1 + 1 < w5.heap.size := (by omega)))
        (try (have : w2.heap.size + 1 + 1 + 1 < w5.heap.size + 1 := (by omega)))
        (try (have : w2.heap.size + 1 + 1 + 1 < w5.heap.size + 1 + 1 := (by omega)))
        (try (have : W.heap.size < w5.heap.size := (by omega)))
        (try (have : W.heap.size < w5.heap.size + 1 := (by omega)))
        (try (have : W.heap.size < w5.heap.size + 1 + 1 := (by omega)))
        (try (have : W.heap.size + 1 < w5.heap.size := (by omega)))
        (try (have : W.heap.size + 1 < w5.heap.size + 1 := (by omega)))
        (try (have : W.heap.size + 1 < w5.heap.size + 1 + 1 := (by omega)))
        (try (have : W.heap.size + 1 + 1 < w5.heap.size := (by omega)))
        (try (have : W.heap.size + 1 + 1 < w5.heap.size + 1 := (by omega)))
        (try (have : W.heap.size + 1 + 1 < w5.heap.size + 1 + 1 := (by omega)))
        (try (have : W.heap.size + 1 + 1 + 1 < w5.heap.size := (by omega)))
        (try (have : W.heap.size + 1 + 1 + 1 < w5.heap.size + 1 := (by omega)))
        (try (have : W.heap.size + 1 + 1 + 1 < w5.heap.size + 1 + 1 := (by omega)))
        (try (have : b4_8 < w5.heap.size := (by omega)))
        (try (have : b4_8 < w5.heap.size + 1 := (by omega)))
        (try (have : b4_8 < w5.heap.size + 1 + 1 := (by omega)))
        simp only [List.drop_succ_cons, List.drop_zero, List.drop_nil]
        have hm := HM2.out
        go_wp2
        gi_wp2
        refine ⟨by repeat' first | with_reducible exact Free.Keeps.refl _ _ _ | with_reducible assumption | with_reducible refine Free.Keeps.setCell ?_ (by first | omega | (simp; done) | (simp; omega)) _ | with_reducible refine Free.Keeps.alloc ?_ _ | with_reducible refine Free.Keeps.drew ?_ | with_reducible refine Free.Keeps.grow ?_ (by assumption), by repeat' first | with_reducible exact Below.refl _ _ | with_reducible assumption | with_reducible refine Free.Grow.alloc ?_ _ | with_reducible refine Free.Grow.setCell ?_ (by first | omega | (simp; done) | (simp; omega)) _ | with_reducible refine Free.Grow.drew ?_ | with_reducible refine Free.Grow.trans ?_ (by assumption), by repeat' first | with_reducible assumption | with_reducible exact Free.blk_new _ (by first | rfl | (simp; done)) | with_reducible refine Free.blk_alloc_old ?_ | with_reducible refine Free.blk_drew ?_ | with_reducible refine Free.blk_setCell_far ?_ (by first | omega | (simp; done) | (simp; omega)) _ | with_reducible apply Free.blk_setCell_to | (show Array.setIfInBounds _ _ _ = _; first | exact rfl | (simp; done)) | with_reducible refine Free.blk_below ?_ (by assumption), by repeat' first | with_reducible assumption | with_reducible exact Free.blk_new _ (by first | rfl | (simp; done)) | with_reducible refine Free.blk_alloc_old ?_ | with_reducible refine Free.blk_drew ?_ | with_reducible refine Free.blk_setCell_far ?_ (by first | omega | (simp; done) | (simp; omega)) _ | with_reducible apply Free.blk_setCell_to | (show Array.setIfInBounds _ _ _ = _; first | exact rfl | (simp; done)) | with_reducible refine Free.blk_below ?_ (by assumption), by repeat' first | with_reducible assumption | with_reducible exact Free.blk_new _ (by first | rfl | (simp; done)) | with_reducible refine Free.blk_alloc_old ?_ | with_reducible refine Free.blk_drew ?_ | with_reducible refine Free.blk_setCell_far ?_ (by first | omega | (simp; done) | (simp; omega)) _ | with_reducible apply Free.blk_setCell_to | (show Array.setIfInBounds _ _ _ = _; first | exact rfl | (simp; done)) | with_reducible refine Free.blk_below ?_ (by assumption), by repeat' first | with_reducible assumption | with_reducible exact Free.blk_new _ (by first | rfl | (simp; done)) | with_reducible refine Free.blk_alloc_old ?_ | with_reducible refine Free.blk_drew ?_ | with_reducible refine Free.blk_setCell_far ?_ (by first | omega | (simp; done) | (simp; omega)) _ | with_reducible apply Free.blk_setCell_to | (show Array.setIfInBounds _ _ _ = _; first | exact rfl | (simp; done)) | with_reducible refine Free.blk_below ?_ (by assumption), by repeat' first | with_reducible assumption | with_reducible exact Free.blk_new _ (by first | rfl | (simp; done)) | with_reducible refine Free.blk_alloc_old ?_ | with_reducible refine Free.blk_drew ?_ | with_reducible refine Free.blk_setCell_far ?_ (by first | omega | (simp; done) | (simp; omega)) _ | with_reducible apply Free.blk_setCell_to | (show Array.setIfInBounds _ _ _ = _; first | exact rfl | (simp; done)) | with_reducible refine Free.blk_below ?_ (by assumption), by repeat' first | with_reducible assumption | with_reducible exact Free.blk_new _ (by first | rfl | (simp; done)) | with_reducible refine Free.blk_alloc_old ?_ | with_reducible refine Free.blk_drew ?_ | with_reducible refine Free.blk_setCell_far ?_ (by first | omega | (simp; done) | (simp; omega)) _ | with_reducible apply Free.blk_setCell_to | (show Array.setIfInBounds _ _ _ = _; first | exact rfl | (simp; done)) | with_reducible refine Free.blk_below ?_ (by assumption), HF.out⟩
  case done =>
    rintro D W hD ⟨hBW, k8, k4, k5, k10, k6, k7, hall⟩ hk
    have HRF2 := Lib.hid (HRF.out (cnAny_false hall))
    have c5 := Free.cell_of_blk k5
    have c6 := Free.cell_of_blk k6
    have c7 := Free.cell_of_blk k7
    have l5 := Free.lt_of_blk k5
    have l6 := Free.lt_of_blk k6
    have l7 := Free.lt_of_blk k7
    have f6 := Free.frozen_of_blk k6
    have f7 := Free.frozen_of_blk k7
    clear hall
    go_wp2
    have hk2 : ((W.setCell ⟨w.heap.size + 1 + 1 + 1, 0, none⟩ (.int .i64 (hi - lo + 1))).setCell ⟨w.heap.size + 1 + 1 + 1 + 1, 0, none⟩ (.int .i64 0)).heap[D]? = some (.deferred (some [])) := by repeat' first | with_reducible assumption | with_reducible exact Free.blk_new _ (by first | rfl | (simp; done)) | with_reducible refine Free.blk_alloc_old ?_ | with_reducible refine Free.blk_drew ?_ | with_reducible refine Free.blk_setCell_far ?_ (by first | omega | (simp; done) | (simp; omega)) _ | with_reducible apply Free.blk_setCell_to | (show Array.setIfInBounds _ _ _ = _; first | exact rfl | (simp; done)) | with_reducible refine Free.blk_below ?_ (by assumption)
    have k6' : ((W.setCell ⟨w.heap.size + 1 + 1 + 1, 0, none⟩ (.int .i64 (hi - lo + 1))).setCell ⟨w.heap.size + 1 + 1 + 1 + 1, 0, none⟩ (.int .i64 0)).heap[w.heap.size + 1 + 1 + 1]? = some (.cells #[.int .i64 (hi - lo + 1)] 3 (0, 0)) := by repeat' first | with_reducible assumption | with_reducible exact Free.blk_new _ (by first | rfl | (simp; done)) | with_reducible refine Free.blk_alloc_old ?_ | with_reducible refine Free.blk_drew ?_ | with_reducible refine Free.blk_setCell_far ?_ (by first | omega | (simp; done) | (simp; omega)) _ | with_reducible apply Free.blk_setCell_to | (show Array.setIfInBounds _ _ _ = _; first | exact rfl | (simp; done)) | with_reducible refine Free.blk_below ?_ (by assumption)
    have k7' : ((W.setCell ⟨w.heap.size + 1 + 1 + 1, 0, none⟩ (.int .i64 (hi - lo + 1))).setCell ⟨w.heap.size + 1 + 1 + 1 + 1, 0, none⟩ (.int .i64 0)).heap[w.heap.size + 1 + 1 + 1 + 1]? = some (.cells #[.int .i64 0] 30 (0, 0)) := by repeat' first | with_reducible assumption | with_reducible exact Free.blk_new _ (by first | rfl | (simp; done)) | with_reducible refine Free.blk_alloc_old ?_ | with_reducible refine Free.blk_drew ?_ | with_reducible refine Free.blk_setCell_far ?_ (by first | omega | (simp; done) | (simp; omega)) _ | with_reducible apply Free.blk_setCell_to | (show Array.setIfInBounds _ _ _ = _; first | exact rfl | (simp; done)) | with_reducible refine Free.blk_below ?_ (by assumption)
    have d6 := Free.cell_of_blk (Free.blk_put (D := D) (o' := .deferred none) k6' (by omega))
    have d7 := Free.cell_of_blk (Free.blk_put (D := D) (o' := .deferred none) k7' (by omega))
    refine Free.bodyPostE_ret1 (D := D) (v := .tuple #[.int .i64 (hi - lo + 1), .int .i64 0]) (by simp [results, Try.results31, go_sem, *]) rfl hk2 ?_
    exact HRF2.out _ (Free.Grow.put (by repeat' first | with_reducible exact Below.refl _ _ | with_reducible assumption | with_reducible refine Free.Grow.alloc ?_ _ | with_reducible refine Free.Grow.setCell ?_ (by first | omega | (simp; done) | (simp; omega)) _ | with_reducible refine Free.Grow.drew ?_ | with_reducible refine Free.Grow.trans ?_ (by assumption)) (by omega) hk2 _)
  case ret =>
    rintro D k W hD hkN ⟨hBW, k6, k7, hany⟩ hk
    have HRT2 := Lib.hid (HRT.out hany)
    have c6 := Free.cell_of_blk (Free.blk_put (D := D) (o' := .deferred none) k6 (by omega))
    have c7 := Free.cell_of_blk (Free.blk_put (D := D) (o' := .deferred none) k7 (by omega))
    refine Free.bodyPostE_ret1 (D := D) (v := .tuple #[.int .i64 0, .int .i64 22]) (by simp [results, Try.results31, go_sem, *]) rfl hk ?_
    exact HRT2.out _ (Free.Grow.put hBW (by omega) hk _)
end Go.Proofs.Ytaoennekamlfeaa
