/- OrbitSurely, the walk through the ticks. -/
import Derived.Test.Ytaoennekamlfeaa02U
import Derived.Test.Ytaoennekamlfeaa02E
import Derived.Test.Ytaoennekamlfeaa02CopyR
set_option linter.unusedSimpArgs false
set_option linter.unusedVariables false
namespace Go.Proofs.Ytaoennekamlfeaa.OrbitSurely
open Go.ChangeShapes Go.WideShapes Go.ChangeAt Go.RowKit Go.Ob Go.Proofs.Ytaoennekamlfeaa

set_option maxRecDepth 100000 in
set_option maxHeartbeats 8000000 in
theorem walk_ok (nm : ByteArray) (bd x y z lo hi wi : Int) (a : Option Addr) (b2 off2 cap cap2 : Nat) (l : List St) (L : List P3) (w : World) (hO : OrbIn w nm a cap l) (h40 : l.length ≤ 42) (hn2 : L.length ≠ 0) (hn250 : L.length ≤ 250)
    (HB : Hid (∀ w', Below w.heap.size w w' → Calls Try.prog 16 #[obV nm bd a l.length cap] w' fun e w'' => e = .returned (.bool true) ∧ Below w'.heap.size w' w''))
    (hqb2 : b2 < w.heap.size) (hCH : HasCh w b2 off2 L) (h : plE nm.data.toList bd l x y z = 0) (hc : (cnR bd l x y z lo hi wi).2 = 0) :
    Calls Try.prog 7 #[flV nm bd a l.length cap (some ⟨b2, off2, none⟩) L.length cap2, v3 x y z, cnV lo hi wi] w fun e w' => e = .returned (.bool true) ∧ Below w.heap.size w w' := by
  have h2 := (firstE_two _ _).1 h
  have hR := (orbE_right h2.1).1
  obtain ⟨hx, hy, hz⟩ := placeE_zero h2.2
  obtain ⟨b, off, rfl, hbw, hmem⟩ := hO.mem hR
  have hl2 := hR.n2
  have hn40 := hR.n40
  have hfl : frstT l ≤ lastT l := hR.le 0 (l.length - 1) (by omega) (by omega)
  have ht0 : 0 ≤ frstT l := (hR.ok 0 (by omega)).t0
  have ht1 : lastT l ≤ 1000000000 := (hR.ok (l.length - 1) (by omega)).t1
  have HNN : Hid ((nTicks l : Int) = lastT l + 1 - frstT l) := by unfold nTicks; show _ = _; omega
  have C := cn_ok hR hc
  have hst := C.steps
  have hlh := C.lohi
  have hlo := C.lo0
  have hhi := C.hi1
  have HCR := Lib.hid (fun w' w0 S (h : OrbIn w' nm (some ⟨b, off, none⟩) cap l) (hs : Free.Safe w0 w' S) => Copy_rel (bd := bd) h (by omega) hs)
  have HC := Lib.hid (fun w' (h : OrbIn w' nm (some ⟨b, off, none⟩) cap l) => Copy_any nm bd (some ⟨b, off, none⟩) cap l w' h (by omega))
  have HN := Lib.hid (fun w' (g c : Nat) (h : OrbIn w' nm (some ⟨g, 0, none⟩) c l) => CheckNearest_any nm bd x y z lo hi wi (some ⟨g, 0, none⟩) c l w' h)
  rw [show cnOr nm.data.toList bd l x y z lo hi wi = (hi - lo + 1, 0) by unfold cnOr; rw [if_pos h, ← hst, ← hc]] at HN
  have HEr := Lib.hid (fun w' (h : OrbIn w' nm (some ⟨b, off, none⟩) cap l) => Err_any nm bd (some ⟨b, off, none⟩) cap l w' h)
  rw [h2.1] at HEr
  have HP := Lib.hid (fun w => IsPlace_any x y z w)
  rw [show plB x y z = true from decide_eq_true h2.2] at HP
  have HF := Lib.hid (fun w' (hS' : HasSts w' b off l) (hb' : b < w'.heap.size) => First_any nm bd b off cap l w' hS' hb' (by omega) (by omega))
  have HL := Lib.hid (fun w' (hS' : HasSts w' b off l) (hb' : b < w'.heap.size) => Last_any nm bd b off cap l w' hS' hb' (by omega) (by omega))
  have HBX := Lib.hid (fun (k : Nat) (hk : k < nTicks l) w' (g c : Nat) (h : OrbIn w' nm (some ⟨g, 0, none⟩) c l) => by
    have hat : atE nm.data.toList bd l (frstT l + k) = 0 := by unfold atE; rw [if_neg (by simp [h2.1]), if_pos ⟨by omega, by have := HNN.out; omega⟩]
    have := BoxAt_any nm bd (frstT l + k) (some ⟨g, 0, none⟩) c l w' h
    rw [hat, show bxOr nm.data.toList bd l (frstT l + k) = bx bd l (frstT l + k) by unfold bxOr; rw [if_pos hat]] at this
    exact this)
  have HTi := Lib.hid (fun (k : Nat) (hk : k < nTicks l) => bx_tight hR (t := frstT l + k) (by omega) (by have := HNN.out; omega))
  have HBO := Lib.hid (fun (k : Nat) (hk : k < nTicks l) => bx_ok hR (t := frstT l + k) (by omega) (by have := HNN.out; omega))
  have HWL := Lib.hid (fun w => rWithin_any (nearTo (sur bd l L x y z) (frstT l) (nTicks l)).1 lo hi w)
  rw [rngB_true.2 (surely_in hR hx hy hz hc)] at HWL
  have HSU : Hid (∀ t, sur bd l L x y z t = dsq ⟨chs (bx bd l t).l0 (bx bd l t).h0 (ch_ L (t % (L.length : Int)).toNat).x, chs (bx bd l t).l1 (bx bd l t).h1 (ch_ L (t % (L.length : Int)).toNat).y, chs (bx bd l t).l2 (bx bd l t).h2 (ch_ L (t % (L.length : Int)).toNat).z⟩ x y z) := fun t => rfl
  have HO := Lib.hid hO
  have HM := Lib.hid hmem
  have HCH := Lib.hid hCH
  have h4 : ¬ (L.length : Int) = 0 := by omega
  have h4' : ((L.length : Int) == 0) = false := by simpa using h4
  have h5 : ¬ (250 : Int) < L.length := by omega
  clear hO h h2 hR hmem hCH hc C hst
  generalize sur bd l L x y z = f at *
  generalize nTicks l = N at *
  generalize hLn : L.length = n2 at *
  have h4'' : (n2 == 0) = false := by simpa using hn2
  have hLN := Lib.hid hLn
  clear hLn
  refine Calls.made fun R HR => ?_
  go_enter Try.func7, Try.ntmps7
  go_wp2_with (first | (go_at_call 15; refine (awake_any _).mono ?_; rintro e w1 ⟨rfl, hb1⟩; have hc1 := (Free.cells_of hb1).1; have hf1 := (Free.cells_of hb1).2; have hz1 := hb1.size; (try simp only [World.size_alloc, World.size_setCell, World.size_drew] at hz1); (try (have : w.heap.size < w1.heap.size := (by omega))); (try (have : w.heap.size < w1.heap.size + 1 := (by omega))); (try (have : w.heap.size < w1.heap.size + 1 + 1 := (by omega))); (try (have : w.heap.size + 1 < w1.heap.size := (by omega))); (try (have : w.heap.size + 1 < w1.heap.size + 1 := (by omega))); (try (have : w.heap.size + 1 < w1.heap.size + 1 + 1 := (by omega))); (try (have : w.heap.size + 1 + 1 < w1.heap.size := (by omega))); (try (have : w.heap.size + 1 + 1 < w1.heap.size + 1 := (by omega))); (try (have : w.heap.size + 1 + 1 < w1.heap.size + 1 + 1 := (by omega))); (try (have : w.heap.size + 1 + 1 + 1 < w1.heap.size := (by omega))); (try (have : w.heap.size + 1 + 1 + 1 < w1.heap.size + 1 := (by omega))); (try (have : w.heap.size + 1 + 1 + 1 < w1.heap.size + 1 + 1 := (by omega)))) | (go_at_call 16; refine (HB.out _ (by repeat' first | with_reducible exact Below.refl _ _ | with_reducible assumption | with_reducible refine Free.Grow.alloc ?_ _ | with_reducible refine Free.Grow.setCell ?_ (by first | omega | (simp; done) | (simp; omega)) _ | with_reducible refine Free.Grow.drew ?_ | with_reducible refine Free.Grow.trans ?_ (by assumption))).mono ?_; rintro e w2 ⟨rfl, hb2⟩; have hc2 := (Free.cells_of hb2).1; have hf2 := (Free.cells_of hb2).2; have hz2 := hb2.size; (try simp only [World.size_alloc, World.size_setCell, World.size_drew] at hz2); (try (have : w.heap.size < w2.heap.size := (by omega))); (try (have : w.heap.size < w2.heap.size + 1 := (by omega))); (try (have : w.heap.size < w2.heap.size + 1 + 1 := (by omega))); (try (have : w.heap.size + 1 < w2.heap.size := (by omega))); (try (have : w.heap.size + 1 < w2.heap.size + 1 := (by omega))); (try (have : w.heap.size + 1 < w2.heap.size + 1 + 1 := (by omega))); (try (have : w.heap.size + 1 + 1 < w2.heap.size := (by omega))); (try (have : w.heap.size + 1 + 1 < w2.heap.size + 1 := (by omega))); (try (have : w.heap.size + 1 + 1 < w2.heap.size + 1 + 1 := (by omega))); (try (have : w.heap.size + 1 + 1 + 1 < w2.heap.size := (by omega))); (try (have : w.heap.size + 1 + 1 + 1 < w2.heap.size + 1 := (by omega))); (try (have : w.heap.size + 1 + 1 + 1 < w2.heap.size + 1 + 1 := (by omega))); (try (have : w1.heap.size < w2.heap.size := (by omega))); (try (have : w1.heap.size < w2.heap.size + 1 := (by omega))); (try (have : w1.heap.size < w2.heap.size + 1 + 1 := (by omega))); (try (have : w1.heap.size + 1 < w2.heap.size := (by omega))); (try (have : w1.heap.size + 1 < w2.heap.size + 1 := (by omega))); (try (have : w1.heap.size + 1 < w2.heap.size + 1 + 1 := (by omega))); (try (have : w1.heap.size + 1 + 1 < w2.heap.size := (by omega))); (try (have : w1.heap.size + 1 + 1 < w2.heap.size + 1 := (by omega))); (try (have : w1.heap.size + 1 + 1 < w2.heap.size + 1 + 1 := (by omega))); (try (have : w1.heap.size + 1 + 1 + 1 < w2.heap.size := (by omega))); (try (have : w1.heap.size + 1 + 1 + 1 < w2.heap.size + 1 := (by omega))); (try (have : w1.heap.size + 1 + 1 + 1 < w2.heap.size + 1 + 1 := (by omega)))) | (go_at_call 19; refine (HEr.out _ (HO.out.below (by repeat' first | with_reducible exact Below.refl _ _ | with_reducible assumption | with_reducible refine Free.Grow.alloc ?_ _ | with_reducible refine Free.Grow.setCell ?_ (by first | omega | (simp; done) | (simp; omega)) _ | with_reducible refine Free.Grow.drew ?_ | with_reducible refine Free.Grow.trans ?_ (by assumption)))).mono ?_; rintro e w3 ⟨rfl, hb3⟩; have hc3 := (Free.cells_of hb3).1; have hf3 := (Free.cells_of hb3).2; have hz3 := hb3.size; (try simp only [World.size_alloc, World.size_setCell, World.size_drew] at hz3); (try (have : w.heap.size < w3.heap.size := (by omega))); (try (have : w.heap.size < w3.heap.size + 1 := (by omega))); (try (have : w.heap.size < w3.heap.size + 1 + 1 := (by omega))); (try (have : w.heap.size + 1 < w3.heap.size := (by omega))); (try (have : w.heap.size + 1 < w3.heap.size + 1 := (by omega))); (try (have : w.heap.size + 1 < w3.heap.size + 1 + 1 := (by omega))); (try (have : w.heap.size + 1 + 1 < w3.heap.size := (by omega))); (try (have : w.heap.size + 1 + 1 < w3.heap.size + 1 := (by omega))); (try (have : w.heap.size + 1 + 1 < w3.heap.size + 1 + 1 := (by omega))); (try (have : w.heap.size + 1 + 1 + 1 < w3.heap.size := (by omega))); (try (have : w.heap.size + 1 + 1 + 1 < w3.heap.size + 1 := (by omega))); (try (have : w.heap.size + 1 + 1 + 1 < w3.heap.size + 1 + 1 := (by omega))); (try (have : w1.heap.size < w3.heap.size := (by omega))); (try (have : w1.heap.size < w3.heap.size + 1 := (by omega))); (try (have : w1.heap.size < w3.heap.size + 1 + 1 := (by omega))); (try (have : w1.heap.size + 1 < w3.heap.size := (by omega))); (try (have : w1.heap.size + 1 < w3.heap.size + 1 := (by omega))); (try (have : w1.heap.size + 1 < w3.heap.size + 1 + 1 := (by omega))); (try (have : w1.heap.size + 1 + 1 < w3.heap.size := (by omega))); (try (have : w1.heap.size + 1 + 1 < w3.heap.size + 1 := (by omega))); (try (have : w1.heap.size + 1 + 1 < w3.heap.size + 1 + 1 := (by omega))); (try (have : w1.heap.size + 1 + 1 + 1 < w3.heap.size := (by omega))); (try (have : w1.heap.size + 1 + 1 + 1 < w3.heap.size + 1 := (by omega))); (try (have : w1.heap.size + 1 + 1 + 1 < w3.heap.size + 1 + 1 := (by omega))); (try (have : w2.heap.size < w3.heap.size := (by omega))); (try (have : w2.heap.size < w3.heap.size + 1 := (by omega))); (try (have : w2.heap.size < w3.heap.size + 1 + 1 := (by omega))); (try (have : w2.heap.size + 1 < w3.heap.size := (by omega))); (try (have : w2.heap.size + 1 < w3.heap.size + 1 := (by omega))); (try (have : w2.heap.size + 1 < w3.heap.size + 1 + 1 := (by omega))); (try (have : w2.heap.size + 1 + 1 < w3.heap.size := (by omega))); (try (have : w2.heap.size + 1 + 1 < w3.heap.size + 1 := (by omega))); (try (have : w2.heap.size + 1 + 1 < w3.heap.size + 1 + 1 := (by omega))); (try (have : w2.heap.size + 1 + 1 + 1 < w3.heap.size := (by omega))); (try (have : w2.heap.size + 1 + 1 + 1 < w3.heap.size + 1 := (by omega))); (try (have : w2.heap.size + 1 + 1 + 1 < w3.heap.size + 1 + 1 := (by omega)))) | (go_at_call 20; refine (HP.out _).mono ?_; rintro e w4 ⟨rfl, hb4⟩; have hc4 := (Free.cells_of hb4).1; have hf4 := (Free.cells_of hb4).2; have hz4 := hb4.size; (try simp only [World.size_alloc, World.size_setCell, World.size_drew] at hz4); (try (have : w.heap.size < w4.heap.size := (by omega))); (try (have : w.heap.size < w4.heap.size + 1 := (by omega))); (try (have : w.heap.size < w4.heap.size + 1 + 1 := (by omega))); (try (have : w.heap.size + 1 < w4.heap.size := (by omega))); (try (have : w.heap.size + 1 < w4.heap.size + 1 := (by omega))); (try (have : w.heap.size + 1 < w4.heap.size + 1 + 1 := (by omega))); (try (have : w.heap.size + 1 + 1 < w4.heap.size := (by omega))); (try (have : w.heap.size + 1 + 1 < w4.heap.size + 1 := (by omega))); (try (have : w.heap.size + 1 + 1 < w4.heap.size + 1 + 1 := (by omega))); (try (have : w.heap.size + 1 + 1 + 1 < w4.heap.size := (by omega))); (try (have : w.heap.size + 1 + 1 + 1 < w4.heap.size + 1 := (by omega))); (try (have : w.heap.size + 1 + 1 + 1 < w4.heap.size + 1 + 1 := (by omega))); (try (have : w1.heap.size < w4.heap.size := (by omega))); (try (have : w1.heap.size < w4.heap.size + 1 := (by omega))); (try (have : w1.heap.size < w4.heap.size + 1 + 1 := (by omega))); (try (have : w1.heap.size + 1 < w4.heap.size := (by omega))); (try (have : w1.heap.size + 1 < w4.heap.size + 1 := (by omega))); (try (have : w1.heap.size + 1 < w4.heap.size + 1 + 1 := (by omega))); (try (have : w1.heap.size + 1 + 1 < w4.heap.size := (by omega))); (try (have : w1.heap.size + 1 + 1 < w4.heap.size + 1 := (by omega))); (try (have : w1.heap.size + 1 + 1 < w4.heap.size + 1 + 1 := (by omega))); (try (have : w1.heap.size + 1 + 1 + 1 < w4.heap.size := (by omega))); (try (have : w1.heap.size + 1 + 1 + 1 < w4.heap.size + 1 := (by omega))); (try (have : w1.heap.size + 1 + 1 + 1 < w4.heap.size + 1 + 1 := (by omega))); (try (have : w2.heap.size < w4.heap.size := (by omega))); (try (have : w2.heap.size < w4.heap.size + 1 := (by omega))); (try (have : w2.heap.size < w4.heap.size + 1 + 1 := (by omega))); (try (have : w2.heap.size + 1 < w4.heap.size := (by omega))); (try (have : w2.heap.size + 1 < w4.heap.size + 1 := (by omega))); (try (have : w2.heap.size + 1 < w4.heap.size + 1 + 1 := (by omega))); (try (have : w2.heap.size + 1 + 1 < w4.heap.size := (by omega))); (try (have : w2.heap.size + 1 + 1 < w4.heap.size + 1 := (by omega))); (try (have : w2.heap.size + 1 + 1 < w4.heap.size + 1 + 1 := (by omega))); (try (have : w2.heap.size + 1 + 1 + 1 < w4.heap.size := (by omega))); (try (have : w2.heap.size + 1 + 1 + 1 < w4.heap.size + 1 := (by omega))); (try (have : w2.heap.size + 1 + 1 + 1 < w4.heap.size + 1 + 1 := (by omega))); (try (have : w3.heap.size < w4.heap.size := (by omega))); (try (have : w3.heap.size < w4.heap.size + 1 := (by omega))); (try (have : w3.heap.size < w4.heap.size + 1 + 1 := (by omega))); (try (have : w3.heap.size + 1 < w4.heap.size := (by omega))); (try (have : w3.heap.size + 1 < w4.heap.size + 1 := (by omega))); (try (have : w3.heap.size + 1 < w4.heap.size + 1 + 1 := (by omega))); (try (have : w3.heap.size + 1 + 1 < w4.heap.size := (by omega))); (try (have : w3.heap.size + 1 + 1 < w4.heap.size + 1 := (by omega))); (try (have : w3.heap.size + 1 + 1 < w4.heap.size + 1 + 1 := (by omega))); (try (have : w3.heap.size + 1 + 1 + 1 < w4.heap.size := (by omega))); (try (have : w3.heap.size + 1 + 1 + 1 < w4.heap.size + 1 := (by omega))); (try (have : w3.heap.size + 1 + 1 + 1 < w4.heap.size + 1 + 1 := (by omega)))))
  refine Free.wp_region 10 #[0, 1, 0, 0, 15, 31, 63, 63, 127, 511] (by kernel_rfl) (by kernel_rfl) ?_
  simp only [List.take_succ_cons, List.take_zero]
  iterate 1
    refine Free.E.q (by rfl) ?_
    apply Exists.intro
    refine ⟨fun u w' hc hb => ?_, ?_⟩
    go_simp
    (try go_ints); (try simp only [Ob.ite_imx, Ob.ite_imn]); first | exact rfl | (go_simp; exact rfl) | (simp only [↓IntWalk.iteOmega]; (try go_simp); exact rfl)
    simp only [Act.put, List.setIfInBounds_toArray, List.set_cons_zero, List.set_cons_succ, List.nil_append, List.cons_append]
  refine Free.E.r (F := CopyF nm bd l) (by rfl) (CopyF.mono nm bd l) (fun u w' S hc hb hs => ?_) ?_
  · go_simp
    refine Free.relUpon_enter ?_
    exact HCR.out _ _ _ (HO.out.below (by repeat' first | with_reducible exact Below.refl _ _ | with_reducible assumption | with_reducible refine Free.Grow.alloc ?_ _ | with_reducible refine Free.Grow.setCell ?_ (by first | omega | (simp; done) | (simp; omega)) _ | with_reducible refine Free.Grow.drew ?_ | with_reducible refine Free.Grow.trans ?_ (by assumption))) hs
  simp only [Act.put, List.setIfInBounds_toArray, List.set_cons_zero, List.set_cons_succ, List.nil_append, List.cons_append]
  iterate 2
    refine Free.E.q (by rfl) ?_
    apply Exists.intro
    refine ⟨fun u w' hc hb => ?_, ?_⟩
    go_simp
    (try go_ints); (try simp only [Ob.ite_imx, Ob.ite_imn]); first | exact rfl | (go_simp; exact rfl) | (simp only [↓IntWalk.iteOmega]; (try go_simp); exact rfl)
    simp only [Act.put, List.setIfInBounds_toArray, List.set_cons_zero, List.set_cons_succ, List.nil_append, List.cons_append]
  refine Free.E.qf (by rfl) ?_
  apply Exists.intro
  refine ⟨fun u w' S hc hb hF => ?_, ?_⟩
  · obtain ⟨gx, capx, hux, hgx, -, hOx⟩ := hF 1 _ rfl (by rfl)
    go_simp
    try simp only [hux]
    (go_at_call 31; exact HN.out _ _ _ hOx)
  simp only [Act.put, List.setIfInBounds_toArray, List.set_cons_zero, List.set_cons_succ, List.nil_append, List.cons_append]
  iterate 5
    refine Free.E.q (by rfl) ?_
    apply Exists.intro
    refine ⟨fun u w' hc hb => ?_, ?_⟩
    go_simp
    (try go_ints); (try simp only [Ob.ite_imx, Ob.ite_imn]); first | exact rfl | (go_simp; exact rfl) | (simp only [↓IntWalk.iteOmega]; (try go_simp); exact rfl)
    simp only [Act.put, List.setIfInBounds_toArray, List.set_cons_zero, List.set_cons_succ, List.nil_append, List.cons_append]
  refine Free.E.nil (fun u w5 S hF => ?_)
  have hb5 := hF.below
  have hm5_1 := hF.facts 1 _ rfl
  clear hF
  have hc5 := (Free.cells_of hb5).1
  have hf5 := (Free.cells_of hb5).2
  have hz5 := hb5.size
  obtain ⟨g5_1, cap5_1, hu5_1, hg5_1, -, hO5_1⟩ := hm5_1
  simp only [hu5_1]
  have HO5_1 := Lib.hid hO5_1
  clear hu5_1 hO5_1
  try simp only [World.size_alloc, World.size_setCell, World.size_drew] at hz5
  (try (have : w.heap.size < w5.heap.size := (by omega)))
  (try (have : w.heap.size < w5.heap.size + 1 := (by omega)))
  (try (have : w.heap.size < w5.heap.size + 1 + 1 := (by omega)))
  (try (have : w.heap.size + 1 < w5.heap.size := (by omega)))
  (try (have : w.heap.size + 1 < w5.heap.size + 1 := (by omega)))
  (try (have : w.heap.size + 1 < w5.heap.size + 1 + 1 := (by omega)))
  (try (have : w.heap.size + 1 + 1 < w5.heap.size := (by omega)))
  (try (have : w.heap.size + 1 + 1 < w5.heap.size + 1 := (by omega)))
  (try (have : w.heap.size + 1 + 1 < w5.heap.size + 1 + 1 := (by omega)))
  (try (have : w.heap.size + 1 + 1 + 1 < w5.heap.size := (by omega)))
  (try (have : w.heap.size + 1 + 1 + 1 < w5.heap.size + 1 := (by omega)))
  (try (have : w.heap.size + 1 + 1 + 1 < w5.heap.size + 1 + 1 := (by omega)))
  (try (have : w1.heap.size < w5.heap.size := (by omega)))
  (try (have : w1.heap.size < w5.heap.size + 1 := (by omega)))
  (try (have : w1.heap.size < w5.heap.size + 1 + 1 := (by omega)))
  (try (have : w1.heap.size + 1 < w5.heap.size := (by omega)))
  (try (have : w1.heap.size + 1 < w5.heap.size + 1 := (by omega)))
  (try (have : w1.heap.size + 1 < w5.heap.size + 1 + 1 := (by omega)))
  (try (have : w1.heap.size + 1 + 1 < w5.heap.size := (by omega)))
  (try (have : w1.heap.size + 1 + 1 < w5.heap.size + 1 := (by omega)))
  (try (have : w1.heap.size + 1 + 1 < w5.heap.size + 1 + 1 := (by omega)))
  (try (have : w1.heap.size + 1 + 1 + 1 < w5.heap.size := (by omega)))
  (try (have : w1.heap.size + 1 + 1 + 1 < w5.heap.size + 1 := (by omega)))
  (try (have : w1.heap.size + 1 + 1 + 1 < w5.heap.size + 1 + 1 := (by omega)))
  (try (have : w2.heap.size < w5.heap.size := (by omega)))
  (try (have : w2.heap.size < w5.heap.size + 1 := (by omega)))
  (try (have : w2.heap.size < w5.heap.size + 1 + 1 := (by omega)))
  (try (have : w2.heap.size + 1 < w5.heap.size := (by omega)))
  (try (have : w2.heap.size + 1 < w5.heap.size + 1 := (by omega)))
  (try (have : w2.heap.size + 1 < w5.heap.size + 1 + 1 := (by omega)))
  (try (have : w2.heap.size + 1 + 1 < w5.heap.size := (by omega)))
  (try (have : w2.heap.size + 1 + 1 < w5.heap.size + 1 := (by omega)))
  (try (have : w2.heap.size + 1 + 1 < w5.heap.size + 1 + 1 := (by omega)))
  (try (have : w2.heap.size + 1 + 1 + 1 < w5.heap.size := (by omega)))
  (try (have : w2.heap.size + 1 + 1 + 1 < w5.heap.size + 1 := (by omega)))
  (try (have : w2.heap.size + 1 + 1 + 1 < w5.heap.size + 1 + 1 := (by omega)))
  (try (have : w3.heap.size < w5.heap.size := (by omega)))
  (try (have : w3.heap.size < w5.heap.size + 1 := (by omega)))
  (try (have : w3.heap.size < w5.heap.size + 1 + 1 := (by omega)))
  (try (have : w3.heap.size + 1 < w5.heap.size := (by omega)))
  (try (have : w3.heap.size + 1 < w5.heap.size + 1 := (by omega)))
  (try (have : w3.heap.size + 1 < w5.heap.size + 1 + 1 := (by omega)))
  (try (have : w3.heap.size + 1 + 1 < w5.heap.size := (by omega)))
  (try (have : w3.heap.size + 1 + 1 < w5.heap.size + 1 := (by omega)))
  (try (have : w3.heap.size + 1 + 1 < w5.heap.size + 1 + 1 := (by omega)))
  (try (have : w3.heap.size + 1 + 1 + 1 < w5.heap.size := (by omega)))
  (try (have : w3.heap.size + 1 + 1 + 1 < w5.heap.size + 1 := (by omega)))
  (try (have : w3.heap.size + 1 + 1 + 1 < w5.heap.size + 1 + 1 := (by omega)))
  (try (have : w4.heap.size < w5.heap.size := (by omega)))
  (try (have : w4.heap.size < w5.heap.size + 1 := (by omega)))
  (try (have : w4.heap.size < w5.heap.size + 1 + 1 := (by omega)))
  (try (have : w4.heap.size + 1 < w5.heap.size := (by omega)))
  (try (have : w4.heap.size + 1 < w5.heap.size + 1 := (by omega)))
  (try (have : w4.heap.size + 1 < w5.heap.size + 1 + 1 := (by omega)))
  (try (have : w4.heap.size + 1 + 1 < w5.heap.size := (by omega)))
  (try (have : w4.heap.size + 1 + 1 < w5.heap.size + 1 := (by omega)))
  (try (have : w4.heap.size + 1 + 1 < w5.heap.size + 1 + 1 := (by omega)))
  (try (have : w4.heap.size + 1 + 1 + 1 < w5.heap.size := (by omega)))
  (try (have : w4.heap.size + 1 + 1 + 1 < w5.heap.size + 1 := (by omega)))
  (try (have : w4.heap.size + 1 + 1 + 1 < w5.heap.size + 1 + 1 := (by omega)))
  simp only [List.drop_succ_cons, List.drop_zero, List.drop_nil]
  go_wp2_with (go_at_call 33; refine (HF.out _ (HM.out.below (B := w.heap.size) (by repeat' first | with_reducible exact Below.refl _ _ | with_reducible assumption | with_reducible refine Free.Grow.alloc ?_ _ | with_reducible refine Free.Grow.setCell ?_ (by first | omega | (simp; done) | (simp; omega)) _ | with_reducible refine Free.Grow.drew ?_ | with_reducible refine Free.Grow.trans ?_ (by assumption)) hbw) (by first | omega | (simp; done) | (simp; omega))).mono ?_; rintro e w6 ⟨rfl, hb6⟩; have hc6 := (Free.cells_of hb6).1; have hf6 := (Free.cells_of hb6).2; have hz6 := hb6.size; (try simp only [World.size_alloc, World.size_setCell, World.size_drew] at hz6); (try (have : w.heap.size < w6.heap.size := (by omega))); (try (have : w.heap.size < w6.heap.size + 1 := (by omega))); (try (have : w.heap.size < w6.heap.size + 1 + 1 := (by omega))); (try (have : w.heap.size + 1 < w6.heap.size := (by omega))); (try (have : w.heap.size + 1 < w6.heap.size + 1 := (by omega))); (try (have : w.heap.size + 1 < w6.heap.size + 1 + 1 := (by omega))); (try (have : w.heap.size + 1 + 1 < w6.heap.size := (by omega))); (try (have : w.heap.size + 1 + 1 < w6.heap.size + 1 := (by omega))); (try (have : w.heap.size + 1 + 1 < w6.heap.size + 1 + 1 := (by omega))); (try (have : w.heap.size + 1 + 1 + 1 < w6.heap.size := (by omega))); (try (have : w.heap.size + 1 + 1 + 1 < w6.heap.size + 1 := (by omega))); (try (have : w.heap.size + 1 + 1 + 1 < w6.heap.size + 1 + 1 := (by omega))); (try (have : w1.heap.size < w6.heap.size := (by omega))); (try (have : w1.heap.size < w6.heap.size + 1 := (by omega))); (try (have : w1.heap.size < w6.heap.size + 1 + 1 := (by omega))); (try (have : w1.heap.size + 1 < w6.heap.size := (by omega))); (try (have : w1.heap.size + 1 < w6.heap.size + 1 := (by omega))); (try (have : w1.heap.size + 1 < w6.heap.size + 1 + 1 := (by omega))); (try (have : w1.heap.size + 1 + 1 < w6.heap.size := (by omega))); (try (have : w1.heap.size + 1 + 1 < w6.heap.size + 1 := (by omega))); (try (have : w1.heap.size + 1 + 1 < w6.heap.size + 1 + 1 := (by omega))); (try (have : w1.heap.size + 1 + 1 + 1 < w6.heap.size := (by omega))); (try (have : w1.heap.size + 1 + 1 + 1 < w6.heap.size + 1 := (by omega))); (try (have : w1.heap.size + 1 + 1 + 1 < w6.heap.size + 1 + 1 := (by omega))); (try (have : w5.heap.size < w6.heap.size := (by omega))); (try (have : w5.heap.size < w6.heap.size + 1 := (by omega))); (try (have : w5.heap.size < w6.heap.size + 1 + 1 := (by omega))); (try (have : w5.heap.size + 1 < w6.heap.size := (by omega))); (try (have : w5.heap.size + 1 < w6.heap.size + 1 := (by omega))); (try (have : w5.heap.size + 1 < w6.heap.size + 1 + 1 := (by omega))); (try (have : w5.heap.size + 1 + 1 < w6.heap.size := (by omega))); (try (have : w5.heap.size + 1 + 1 < w6.heap.size + 1 := (by omega))); (try (have : w5.heap.size + 1 + 1 < w6.heap.size + 1 + 1 := (by omega))); (try (have : w5.heap.size + 1 + 1 + 1 < w6.heap.size := (by omega))); (try (have : w5.heap.size + 1 + 1 + 1 < w6.heap.size + 1 := (by omega))); (try (have : w5.heap.size + 1 + 1 + 1 < w6.heap.size + 1 + 1 := (by omega))))
  have s3 : Hid (w6.heap[w.heap.size]? = some (.cells #[.string nm, .int .i64 bd, .slice (some ⟨b, off, none⟩) l.length cap, .slice (some ⟨b2, off2, none⟩) n2 cap2] 66 (0, 0))) := by unfold Hid; repeat' first | with_reducible assumption | with_reducible exact Free.blk_new _ (by first | rfl | (simp; done)) | with_reducible refine Free.blk_alloc_old ?_ | with_reducible refine Free.blk_drew ?_ | with_reducible refine Free.blk_setCell_far ?_ (by first | omega | (simp; done) | (simp; omega)) _ | with_reducible apply Free.blk_setCell_to | (show Array.setIfInBounds _ _ _ = _; first | exact rfl | (simp; done)) | with_reducible refine Free.blk_below ?_ (by assumption)
  have s4 : Hid (w6.heap[w.heap.size + 1]? = some (.cells #[.int .i64 x, .int .i64 y, .int .i64 z] 26 (0, 0))) := by unfold Hid; repeat' first | with_reducible assumption | with_reducible exact Free.blk_new _ (by first | rfl | (simp; done)) | with_reducible refine Free.blk_alloc_old ?_ | with_reducible refine Free.blk_drew ?_ | with_reducible refine Free.blk_setCell_far ?_ (by first | omega | (simp; done) | (simp; omega)) _ | with_reducible apply Free.blk_setCell_to | (show Array.setIfInBounds _ _ _ = _; first | exact rfl | (simp; done)) | with_reducible refine Free.blk_below ?_ (by assumption)
  have s5 : Hid (w6.heap[w.heap.size + 1 + 1]? = some (.cells #[.int .i64 lo, .int .i64 hi, .int .i64 wi] 58 (0, 0))) := by unfold Hid; repeat' first | with_reducible assumption | with_reducible exact Free.blk_new _ (by first | rfl | (simp; done)) | with_reducible refine Free.blk_alloc_old ?_ | with_reducible refine Free.blk_drew ?_ | with_reducible refine Free.blk_setCell_far ?_ (by first | omega | (simp; done) | (simp; omega)) _ | with_reducible apply Free.blk_setCell_to | (show Array.setIfInBounds _ _ _ = _; first | exact rfl | (simp; done)) | with_reducible refine Free.blk_below ?_ (by assumption)
  have s7 : Hid (w6.heap[w1.heap.size]? = some (.cells #[.string nm, .int .i64 bd, .slice (some ⟨b, off, none⟩) l.length cap] 24 (0, 0))) := by unfold Hid; repeat' first | with_reducible assumption | with_reducible exact Free.blk_new _ (by first | rfl | (simp; done)) | with_reducible refine Free.blk_alloc_old ?_ | with_reducible refine Free.blk_drew ?_ | with_reducible refine Free.blk_setCell_far ?_ (by first | omega | (simp; done) | (simp; omega)) _ | with_reducible apply Free.blk_setCell_to | (show Array.setIfInBounds _ _ _ = _; first | exact rfl | (simp; done)) | with_reducible refine Free.blk_below ?_ (by assumption)
  have sB : Hid (Below w.heap.size w w6) := by unfold Hid; repeat' first | with_reducible exact Below.refl _ _ | with_reducible assumption | with_reducible refine Free.Grow.alloc ?_ _ | with_reducible refine Free.Grow.setCell ?_ (by first | omega | (simp; done) | (simp; omega)) _ | with_reducible refine Free.Grow.drew ?_ | with_reducible refine Free.Grow.trans ?_ (by assumption)
  go_loopw [10, 11, 12, 13, 14, 15, 16, 17, 18, 19] (fun i q t _ _ _ _ _ _ _ wr => ∃ k : Nat, k ≤ N ∧ t = .int .i64 (frstT l + k) ∧ i = .int .i64 (nearTo f (frstT l) k).1 ∧ q = .int .i64 (nearTo f (frstT l) k).2 ∧ Hid (Below w.heap.size w wr) ∧
      Hid (wr.heap[w.heap.size]? = some (.cells #[.string nm, .int .i64 bd, .slice (some ⟨b, off, none⟩) l.length cap, .slice (some ⟨b2, off2, none⟩) n2 cap2] 66 (0, 0))) ∧
      Hid (wr.heap[w.heap.size + 1]? = some (.cells #[.int .i64 x, .int .i64 y, .int .i64 z] 26 (0, 0))) ∧
      Hid (wr.heap[w.heap.size + 1 + 1]? = some (.cells #[.int .i64 lo, .int .i64 hi, .int .i64 wi] 58 (0, 0))) ∧
      Hid (wr.heap[w1.heap.size]? = some (.cells #[.string nm, .int .i64 bd, .slice (some ⟨b, off, none⟩) l.length cap] 24 (0, 0)))) (fun _ _ t _ _ _ _ _ _ _ _ => (lastT l + 1 - intOf t).toNat)
  case atStart => exact ⟨0, Nat.zero_le _, by simp, by simp only [nearTo_zero], by simp only [nearTo_zero], sB, s3, s4, s5, s7⟩
  case round =>
    obtain ⟨k, hk, rfl, rfl, rfl, HBL, HK3, HK4, HK5, HK7⟩ := hrel
    clear s3 s4 s5 s7 sB
    have hbr := HBL.out
    have k3 := HK3.out
    have k4 := HK4.out
    have k5 := HK5.out
    have k7 := HK7.out
    have c3 := Free.cell_of_blk k3
    have c4 := Free.cell_of_blk k4
    have c5 := Free.cell_of_blk k5
    have c7 := Free.cell_of_blk k7
    have l3 := Free.lt_of_blk k3
    have l4 := Free.lt_of_blk k4
    have l5 := Free.lt_of_blk k5
    have l7 := Free.lt_of_blk k7
    have hwr := hbr.size
    have lb2 : b2 < wr.heap.size := by omega
    clear HK3 HK4 HK5 HK7
    by_cases hlt2 : k < N
    · have ht : frstT l + k ≤ lastT l := by have := HNN.out; omega
      have HY := Lib.hid (nearTo_yes (f := f) (a := frstT l) (k := k))
      have HX := Lib.hid (nearTo_no (f := f) (a := frstT l) (k := k))
      have hSU := HSU.out (frstT l + k)
      have hTi := HTi.out k hlt2
      have hBO := HBO.out k hlt2
      have hBX := Lib.hid (HBX.out k hlt2)
      have hnn := Int.emod_nonneg (frstT l + k) h4
      have hlt := Int.emod_lt_of_pos (frstT l + k) (show (0 : Int) < n2 by omega)
      have HMd := Lib.hid (fun w => rMod_any (frstT l + k) n2 w (by omega) (by omega))
      have hje : (frstT l + k) % (n2 : Int) = ((((frstT l + k) % (n2 : Int)).toNat : Nat) : Int) := (Int.toNat_of_nonneg hnn).symm
      rw [hje] at HMd
      have hj : ((frstT l + k) % (n2 : Int)).toNat < n2 := by omega
      clear hje hnn hlt HWL HBX
      generalize ((frstT l + k) % (n2 : Int)).toNat = j at *
      have hj1 : (j : Int) < n2 := by omega
      obtain ⟨d1, d2, d3⟩ := (HCH.out.below hbr hqb2) j (by rw [hLN.out]; exact hj)
      generalize ch_ L j = c at *
      obtain ⟨g0, g1, g2⟩ := c
      generalize nearTo f (frstT l) k = r at *
      obtain ⟨r1, r2⟩ := r
      simp only at HY HX hSU d1 d2 d3
      generalize bx bd l (frstT l + k) = q at *
      obtain ⟨l0, h0, l1, h1, l2, h2⟩ := q
      obtain ⟨q1, q2, q3, q4, q5, q6, q7, q8, q9⟩ := hBO
      obtain ⟨⟨p1, p2⟩, ⟨p3, p4⟩, p5, p6⟩ := hTi
      simp only [bxV] at hSU hBX p1 p2 p3 p4 p5 p6 q1 q2 q3 q4 q5 q6 q7 q8 q9
      have HW0 := Lib.hid (fun w => rWithin_any l0 (-200000000) h0 w)
      have HW1 := Lib.hid (fun w => rWithin_any l1 (-200000000) h1 w)
      have HW2 := Lib.hid (fun w => rWithin_any l2 (-200000000) h2 w)
      rw [rngB_true.2 ⟨p1, q2⟩] at HW0
      rw [rngB_true.2 ⟨p3, q5⟩] at HW1
      rw [rngB_true.2 ⟨p5, q8⟩] at HW2
      have HM0 := Lib.hid (fun w => rMod_any g0 1001 w (by omega) (by omega))
      have HM1 := Lib.hid (fun w => rMod_any g1 1001 w (by omega) (by omega))
      have HM2 := Lib.hid (fun w => rMod_any g2 1001 w (by omega) (by omega))
      have e0 := chs_in (c := g0) q2
      have e1 := chs_in (c := g1) q5
      have e2 := chs_in (c := g2) q8
      unfold chs at e0 e1 e2 hSU
      unfold dsq at hSU
      simp only at hSU
      generalize g0 % 1001 = m0 at *
      generalize g1 % 1001 = m1 at *
      generalize g2 % 1001 = m2 at *
      have HF0 := Lib.hid (fun w => rFloor_any ((h0 - l0) * m0) 1000 w (by omega) (by omega) (by omega) (by omega))
      have HF1 := Lib.hid (fun w => rFloor_any ((h1 - l1) * m1) 1000 w (by omega) (by omega) (by omega) (by omega))
      have HF2 := Lib.hid (fun w => rFloor_any ((h2 - l2) * m2) 1000 w (by omega) (by omega) (by omega) (by omega))
      generalize (h0 - l0) * m0 / 1000 = f0 at *
      generalize (h1 - l1) * m1 / 1000 = f1 at *
      generalize (h2 - l2) * m2 / 1000 = f2 at *
      obtain ⟨e00, e01, e02, e03, e04, e05⟩ := e0
      obtain ⟨e10, e11, e12, e13, e14, e15⟩ := e1
      obtain ⟨e20, e21, e22, e23, e24, e25⟩ := e2
      obtain ⟨sA0, sA1⟩ := sq_bd (n := l0 + f0 - x) (M := 300000000) (by omega) (by omega)
      obtain ⟨sB0, sB1⟩ := sq_bd (n := l1 + f1 - y) (M := 300000000) (by omega) (by omega)
      obtain ⟨sC0, sC1⟩ := sq_bd (n := l2 + f2 - z) (M := 300000000) (by omega) (by omega)
      have HSV := Lib.hid hSU
      clear hSU HB
      go_wp2_with (go_at_call 34; refine (HL.out _ (HM.out.below (B := w.heap.size) (by repeat' first | with_reducible exact Below.refl _ _ | with_reducible assumption | with_reducible refine Free.Grow.alloc ?_ _ | with_reducible refine Free.Grow.setCell ?_ (by first | omega | (simp; done) | (simp; omega)) _ | with_reducible refine Free.Grow.drew ?_ | with_reducible refine Free.Grow.trans ?_ (by assumption)) hbw) (by first | omega | (simp; done) | (simp; omega))).mono ?_; rintro e w6 ⟨rfl, hb6⟩; have hc6 := (Free.cells_of hb6).1; have hf6 := (Free.cells_of hb6).2; have hz6 := hb6.size; (try simp only [World.size_alloc, World.size_setCell, World.size_drew] at hz6); (try (have : w.heap.size < w6.heap.size := (by omega))); (try (have : w.heap.size < w6.heap.size + 1 := (by omega))); (try (have : w.heap.size < w6.heap.size + 1 + 1 := (by omega))); (try (have : w.heap.size + 1 < w6.heap.size := (by omega))); (try (have : w.heap.size + 1 < w6.heap.size + 1 := (by omega))); (try (have : w.heap.size + 1 < w6.heap.size + 1 + 1 := (by omega))); (try (have : w.heap.size + 1 + 1 < w6.heap.size := (by omega))); (try (have : w.heap.size + 1 + 1 < w6.heap.size + 1 := (by omega))); (try (have : w.heap.size + 1 + 1 < w6.heap.size + 1 + 1 := (by omega))); (try (have : w.heap.size + 1 + 1 + 1 < w6.heap.size := (by omega))); (try (have : w.heap.size + 1 + 1 + 1 < w6.heap.size + 1 := (by omega))); (try (have : w.heap.size + 1 + 1 + 1 < w6.heap.size + 1 + 1 := (by omega))); (try (have : w1.heap.size < w6.heap.size := (by omega))); (try (have : w1.heap.size < w6.heap.size + 1 := (by omega))); (try (have : w1.heap.size < w6.heap.size + 1 + 1 := (by omega))); (try (have : w1.heap.size + 1 < w6.heap.size := (by omega))); (try (have : w1.heap.size + 1 < w6.heap.size + 1 := (by omega))); (try (have : w1.heap.size + 1 < w6.heap.size + 1 + 1 := (by omega))); (try (have : w1.heap.size + 1 + 1 < w6.heap.size := (by omega))); (try (have : w1.heap.size + 1 + 1 < w6.heap.size + 1 := (by omega))); (try (have : w1.heap.size + 1 + 1 < w6.heap.size + 1 + 1 := (by omega))); (try (have : w1.heap.size + 1 + 1 + 1 < w6.heap.size := (by omega))); (try (have : w1.heap.size + 1 + 1 + 1 < w6.heap.size + 1 := (by omega))); (try (have : w1.heap.size + 1 + 1 + 1 < w6.heap.size + 1 + 1 := (by omega))); (try (have : wr.heap.size < w6.heap.size := (by omega))); (try (have : wr.heap.size < w6.heap.size + 1 := (by omega))); (try (have : wr.heap.size < w6.heap.size + 1 + 1 := (by omega))); (try (have : wr.heap.size + 1 < w6.heap.size := (by omega))); (try (have : wr.heap.size + 1 < w6.heap.size + 1 := (by omega))); (try (have : wr.heap.size + 1 < w6.heap.size + 1 + 1 := (by omega))); (try (have : wr.heap.size + 1 + 1 < w6.heap.size := (by omega))); (try (have : wr.heap.size + 1 + 1 < w6.heap.size + 1 := (by omega))); (try (have : wr.heap.size + 1 + 1 < w6.heap.size + 1 + 1 := (by omega))); (try (have : wr.heap.size + 1 + 1 + 1 < w6.heap.size := (by omega))); (try (have : wr.heap.size + 1 + 1 + 1 < w6.heap.size + 1 := (by omega))); (try (have : wr.heap.size + 1 + 1 + 1 < w6.heap.size + 1 + 1 := (by omega))); (try (have : b2 < w6.heap.size := (by omega))); (try (have : b2 < w6.heap.size + 1 := (by omega))); (try (have : b2 < w6.heap.size + 1 + 1 := (by omega))))
      go_wp2_with fail
      refine (HC.out _ (HO.out.below (by repeat' first | with_reducible exact Below.refl _ _ | with_reducible assumption | with_reducible refine Free.Grow.alloc ?_ _ | with_reducible refine Free.Grow.setCell ?_ (by first | omega | (simp; done) | (simp; omega)) _ | with_reducible refine Free.Grow.drew ?_ | with_reducible refine Free.Grow.trans ?_ (by assumption)))).mono ?_
      rintro e w7 ⟨g7, cap7, rfl, hb7, how7, hO7⟩
      have hc7 := (Free.cells_of hb7).1; have hf7 := (Free.cells_of hb7).2; have hz7 := hb7.size; (try simp only [World.size_alloc, World.size_setCell, World.size_drew] at hz7)
      (try (have : w.heap.size < w7.heap.size := (by omega))); (try (have : w.heap.size < w7.heap.size + 1 := (by omega))); (try (have : w.heap.size < w7.heap.size + 1 + 1 := (by omega))); (try (have : w.heap.size + 1 < w7.heap.size := (by omega))); (try (have : w.heap.size + 1 < w7.heap.size + 1 := (by omega))); (try (have : w.heap.size + 1 < w7.heap.size + 1 + 1 := (by omega))); (try (have : w.heap.size + 1 + 1 < w7.heap.size := (by omega))); (try (have : w.heap.size + 1 + 1 < w7.heap.size + 1 := (by omega))); (try (have : w.heap.size + 1 + 1 < w7.heap.size + 1 + 1 := (by omega))); (try (have : w.heap.size + 1 + 1 + 1 < w7.heap.size := (by omega))); (try (have : w.heap.size + 1 + 1 + 1 < w7.heap.size + 1 := (by omega))); (try (have : w.heap.size + 1 + 1 + 1 < w7.heap.size + 1 + 1 := (by omega))); (try (have : w1.heap.size < w7.heap.size := (by omega))); (try (have : w1.heap.size < w7.heap.size + 1 := (by omega))); (try (have : w1.heap.size < w7.heap.size + 1 + 1 := (by omega))); (try (have : w1.heap.size + 1 < w7.heap.size := (by omega))); (try (have : w1.heap.size + 1 < w7.heap.size + 1 := (by omega))); (try (have : w1.heap.size + 1 < w7.heap.size + 1 + 1 := (by omega))); (try (have : w1.heap.size + 1 + 1 < w7.heap.size := (by omega))); (try (have : w1.heap.size + 1 + 1 < w7.heap.size + 1 := (by omega))); (try (have : w1.heap.size + 1 + 1 < w7.heap.size + 1 + 1 := (by omega))); (try (have : w1.heap.size + 1 + 1 + 1 < w7.heap.size := (by omega))); (try (have : w1.heap.size + 1 + 1 + 1 < w7.heap.size + 1 := (by omega))); (try (have : w1.heap.size + 1 + 1 + 1 < w7.heap.size + 1 + 1 := (by omega))); (try (have : wr.heap.size < w7.heap.size := (by omega))); (try (have : wr.heap.size < w7.heap.size + 1 := (by omega))); (try (have : wr.heap.size < w7.heap.size + 1 + 1 := (by omega))); (try (have : wr.heap.size + 1 < w7.heap.size := (by omega))); (try (have : wr.heap.size + 1 < w7.heap.size + 1 := (by omega))); (try (have : wr.heap.size + 1 < w7.heap.size + 1 + 1 := (by omega))); (try (have : wr.heap.size + 1 + 1 < w7.heap.size := (by omega))); (try (have : wr.heap.size + 1 + 1 < w7.heap.size + 1 := (by omega))); (try (have : wr.heap.size + 1 + 1 < w7.heap.size + 1 + 1 := (by omega))); (try (have : wr.heap.size + 1 + 1 + 1 < w7.heap.size := (by omega))); (try (have : wr.heap.size + 1 + 1 + 1 < w7.heap.size + 1 := (by omega))); (try (have : wr.heap.size + 1 + 1 + 1 < w7.heap.size + 1 + 1 := (by omega))); (try (have : w6.heap.size < w7.heap.size := (by omega))); (try (have : w6.heap.size < w7.heap.size + 1 := (by omega))); (try (have : w6.heap.size < w7.heap.size + 1 + 1 := (by omega))); (try (have : w6.heap.size + 1 < w7.heap.size := (by omega))); (try (have : w6.heap.size + 1 < w7.heap.size + 1 := (by omega))); (try (have : w6.heap.size + 1 < w7.heap.size + 1 + 1 := (by omega))); (try (have : w6.heap.size + 1 + 1 < w7.heap.size := (by omega))); (try (have : w6.heap.size + 1 + 1 < w7.heap.size + 1 := (by omega))); (try (have : w6.heap.size + 1 + 1 < w7.heap.size + 1 + 1 := (by omega))); (try (have : w6.heap.size + 1 + 1 + 1 < w7.heap.size := (by omega))); (try (have : w6.heap.size + 1 + 1 + 1 < w7.heap.size + 1 := (by omega))); (try (have : w6.heap.size + 1 + 1 + 1 < w7.heap.size + 1 + 1 := (by omega))); (try (have : b2 < w7.heap.size := (by omega))); (try (have : b2 < w7.heap.size + 1 := (by omega))); (try (have : b2 < w7.heap.size + 1 + 1 := (by omega)))
      have HO7 := Lib.hid hO7
      clear how7 hO7
      go_wp2_with fail
      refine (hBX.out _ _ _ HO7.out).mono ?_
      rintro e w8 ⟨rfl, hb8⟩
      have hc8 := (Free.cells_of hb8).1; have hf8 := (Free.cells_of hb8).2; have hz8 := hb8.size; (try simp only [World.size_alloc, World.size_setCell, World.size_drew] at hz8)
      (try (have : w.heap.size < w8.heap.size := (by omega))); (try (have : w.heap.size < w8.heap.size + 1 := (by omega))); (try (have : w.heap.size < w8.heap.size + 1 + 1 := (by omega))); (try (have : w.heap.size + 1 < w8.heap.size := (by omega))); (try (have : w.heap.size + 1 < w8.heap.size + 1 := (by omega))); (try (have : w.heap.size + 1 < w8.heap.size + 1 + 1 := (by omega))); (try (have : w.heap.size + 1 + 1 < w8.heap.size := (by omega))); (try (have : w.heap.size + 1 + 1 < w8.heap.size + 1 := (by omega))); (try (have : w.heap.size + 1 + 1 < w8.heap.size + 1 + 1 := (by omega))); (try (have : w.heap.size + 1 + 1 + 1 < w8.heap.size := (by omega))); (try (have : w.heap.size + 1 + 1 + 1 < w8.heap.size + 1 := (by omega))); (try (have : w.heap.size + 1 + 1 + 1 < w8.heap.size + 1 + 1 := (by omega))); (try (have : w1.heap.size < w8.heap.size := (by omega))); (try (have : w1.heap.size < w8.heap.size + 1 := (by omega))); (try (have : w1.heap.size < w8.heap.size + 1 + 1 := (by omega))); (try (have : w1.heap.size + 1 < w8.heap.size := (by omega))); (try (have : w1.heap.size + 1 < w8.heap.size + 1 := (by omega))); (try (have : w1.heap.size + 1 < w8.heap.size + 1 + 1 := (by omega))); (try (have : w1.heap.size + 1 + 1 < w8.heap.size := (by omega))); (try (have : w1.heap.size + 1 + 1 < w8.heap.size + 1 := (by omega))); (try (have : w1.heap.size + 1 + 1 < w8.heap.size + 1 + 1 := (by omega))); (try (have : w1.heap.size + 1 + 1 + 1 < w8.heap.size := (by omega))); (try (have : w1.heap.size + 1 + 1 + 1 < w8.heap.size + 1 := (by omega))); (try (have : w1.heap.size + 1 + 1 + 1 < w8.heap.size + 1 + 1 := (by omega))); (try (have : wr.heap.size < w8.heap.size := (by omega))); (try (have : wr.heap.size < w8.heap.size + 1 := (by omega))); (try (have : wr.heap.size < w8.heap.size + 1 + 1 := (by omega))); (try (have : wr.heap.size + 1 < w8.heap.size := (by omega))); (try (have : wr.heap.size + 1 < w8.heap.size + 1 := (by omega))); (try (have : wr.heap.size + 1 < w8.heap.size + 1 + 1 := (by omega))); (try (have : wr.heap.size + 1 + 1 < w8.heap.size := (by omega))); (try (have : wr.heap.size + 1 + 1 < w8.heap.size + 1 := (by omega))); (try (have : wr.heap.size + 1 + 1 < w8.heap.size + 1 + 1 := (by omega))); (try (have : wr.heap.size + 1 + 1 + 1 < w8.heap.size := (by omega))); (try (have : wr.heap.size + 1 + 1 + 1 < w8.heap.size + 1 := (by omega))); (try (have : wr.heap.size + 1 + 1 + 1 < w8.heap.size + 1 + 1 := (by omega))); (try (have : w6.heap.size < w8.heap.size := (by omega))); (try (have : w6.heap.size < w8.heap.size + 1 := (by omega))); (try (have : w6.heap.size < w8.heap.size + 1 + 1 := (by omega))); (try (have : w6.heap.size + 1 < w8.heap.size := (by omega))); (try (have : w6.heap.size + 1 < w8.heap.size + 1 := (by omega))); (try (have : w6.heap.size + 1 < w8.heap.size + 1 + 1 := (by omega))); (try (have : w6.heap.size + 1 + 1 < w8.heap.size := (by omega))); (try (have : w6.heap.size + 1 + 1 < w8.heap.size + 1 := (by omega))); (try (have : w6.heap.size + 1 + 1 < w8.heap.size + 1 + 1 := (by omega))); (try (have : w6.heap.size + 1 + 1 + 1 < w8.heap.size := (by omega))); (try (have : w6.heap.size + 1 + 1 + 1 < w8.heap.size + 1 := (by omega))); (try (have : w6.heap.size + 1 + 1 + 1 < w8.heap.size + 1 + 1 := (by omega))); (try (have : w7.heap.size < w8.heap.size := (by omega))); (try (have : w7.heap.size < w8.heap.size + 1 := (by omega))); (try (have : w7.heap.size < w8.heap.size + 1 + 1 := (by omega))); (try (have : w7.heap.size + 1 < w8.heap.size := (by omega))); (try (have : w7.heap.size + 1 < w8.heap.size + 1 := (by omega))); (try (have : w7.heap.size + 1 < w8.heap.size + 1 + 1 := (by omega))); (try (have : w7.heap.size + 1 + 1 < w8.heap.size := (by omega))); (try (have : w7.heap.size + 1 + 1 < w8.heap.size + 1 := (by omega))); (try (have : w7.heap.size + 1 + 1 < w8.heap.size + 1 + 1 := (by omega))); (try (have : w7.heap.size + 1 + 1 + 1 < w8.heap.size := (by omega))); (try (have : w7.heap.size + 1 + 1 + 1 < w8.heap.size + 1 := (by omega))); (try (have : w7.heap.size + 1 + 1 + 1 < w8.heap.size + 1 + 1 := (by omega))); (try (have : b2 < w8.heap.size := (by omega))); (try (have : b2 < w8.heap.size + 1 := (by omega))); (try (have : b2 < w8.heap.size + 1 + 1 := (by omega)))
      go_wp2
      refine Free.wp_region 11 #[0, 1, 0, 0, 8, 24, 60, 127, 255, 0, 1023] (by kernel_rfl) (by kernel_rfl) ?_
      simp only [List.take_succ_cons, List.take_zero]
      iterate 9
        refine Free.E.q (by rfl) ?_
        apply Exists.intro
        refine ⟨fun u w' hc hb => ?_, ?_⟩
        go_simp
        (try go_ints); (try simp only [Ob.ite_imx, Ob.ite_imn]); first | exact rfl | (go_simp; exact rfl) | ((go_at_call 35; with_reducible exact Free.Calls.grow (HMd.out _))) | (simp only [↓IntWalk.iteOmega]; (try go_simp); exact rfl)
        simp only [Act.put, List.setIfInBounds_toArray, List.set_cons_zero, List.set_cons_succ, List.nil_append, List.cons_append]
      refine Free.E.new (z := #[.int .i64 0, .int .i64 0, .int .i64 0]) (by rfl) rfl (by kernel_rfl) ?_
      simp only [Act.put, List.setIfInBounds_toArray, List.set_cons_zero, List.set_cons_succ, List.nil_append, List.cons_append]
      refine Free.E.init (k := 9) (by rfl) (by rfl) rfl rfl (by rfl) (by decide) (by rfl) (fun _ => rfl) (fun _ => rfl) (by kernel_rfl) rfl rfl (by rfl) ?_
      simp only [List.nil_append, List.cons_append]
      refine Free.E.nil (fun u w9 S hF => ?_)
      have hb9 := hF.below
      obtain ⟨b9_9, hu9_9, hlo9_9, hhi9_9, -, hk9_9⟩ := hF.allocs 9 _ _ rfl
      simp only [Free.final, List.findSome?, reduceIte, Option.getD_some, Option.getD_none, Nat.reduceEqDiff, Value.cells] at hk9_9
      clear hF
      have hc9 := (Free.cells_of hb9).1
      have hf9 := (Free.cells_of hb9).2
      have hz9 := hb9.size
      simp only [hu9_9]
      have hcb9_9 := Free.cell_of_blk hk9_9
      have hfb9_9 := Free.frozen_of_blk hk9_9
      have HK9_9 := Lib.hid hk9_9
      clear hu9_9 hk9_9
      try simp only [World.size_alloc, World.size_setCell, World.size_drew] at hz9 hlo9_9
      (try (have : w.heap.size < w9.heap.size := (by omega)))
      (try (have : w.heap.size < w9.heap.size + 1 := (by omega)))
      (try (have : w.heap.size < w9.heap.size + 1 + 1 := (by omega)))
      (try (have : w.heap.size + 1 < w9.heap.size := (by omega)))
      (try (have : w.heap.size + 1 < w9.heap.size + 1 := (by omega)))
      (try (have : w.heap.size + 1 < w9.heap.size + 1 + 1 := (by omega)))
      (try (have : w.heap.size + 1 + 1 < w9.heap.size := (by omega)))
      (try (have : w.heap.size + 1 + 1 < w9.heap.size + 1 := (by omega)))
      (try (have : w.heap.size + 1 + 1 < w9.heap.size + 1 + 1 := (by omega)))
      (try (have : w.heap.size + 1 + 1 + 1 < w9.heap.size := (by omega)))
      (try (have : w.heap.size + 1 + 1 + 1 < w9.heap.size + 1 := (by omega)))
      (try (have : w.heap.size + 1 + 1 + 1 < w9.heap.size + 1 + 1 := (by omega)))
      (try (have : w1.heap.size < w9.heap.size := (by omega)))
      (try (have : w1.heap.size < w9.heap.size + 1 := (by omega)))
      (try (have : w1.heap.size < w9.heap.size + 1 + 1 := (by omega)))
      (try (have : w1.heap.size + 1 < w9.heap.size := (by omega)))
      (try (have : w1.heap.size + 1 < w9.heap.size + 1 := (by omega)))
      (try (have : w1.heap.size + 1 < w9.heap.size + 1 + 1 := (by omega)))
      (try (have : w1.heap.size + 1 + 1 < w9.heap.size := (by omega)))
      (try (have : w1.heap.size + 1 + 1 < w9.heap.size + 1 := (by omega)))
      (try (have : w1.heap.size + 1 + 1 < w9.heap.size + 1 + 1 := (by omega)))
      (try (have : w1.heap.size + 1 + 1 + 1 < w9.heap.size := (by omega)))
      (try (have : w1.heap.size + 1 + 1 + 1 < w9.heap.size + 1 := (by omega)))
      (try (have : w1.heap.size + 1 + 1 + 1 < w9.heap.size + 1 + 1 := (by omega)))
      (try (have : wr.heap.size < w9.heap.size := (by omega)))
      (try (have : wr.heap.size < w9.heap.size + 1 := (by omega)))
      (try (have : wr.heap.size < w9.heap.size + 1 + 1 := (by omega)))
      (try (have : wr.heap.size + 1 < w9.heap.size := (by omega)))
      (try (have : wr.heap.size + 1 < w9.heap.size + 1 := (by omega)))
      (try (have : wr.heap.size + 1 < w9.heap.size + 1 + 1 := (by omega)))
      (try (have : wr.heap.size + 1 + 1 < w9.heap.size := (by omega)))
      (try (have : wr.heap.size + 1 + 1 < w9.heap.size + 1 := (by omega)))
      (try (have : wr.heap.size + 1 + 1 < w9.heap.size + 1 + 1 := (by omega)))
      (try (have : wr.heap.size + 1 + 1 + 1 < w9.heap.size := (by omega)))
      (try (have : wr.heap.size + 1 + 1 + 1 < w9.heap.size + 1 := (by omega)))
      (try (have : wr.heap.size + 1 + 1 + 1 < w9.heap.size + 1 + 1 := (by omega)))
      (try (have : w6.heap.size < w9.heap.size := (by omega)))
      (try (have : w6.heap.size < w9.heap.size + 1 := (by omega)))
      (try (have : w6.heap.size < w9.heap.size + 1 + 1 := (by omega)))
      (try (have : w6.heap.size + 1 < w9.heap.size := (by omega)))
      (try (have : w6.heap.size + 1 < w9.heap.size + 1 := (by omega)))
      (try (have : w6.heap.size + 1 < w9.heap.size + 1 + 1 := (by omega)))
      (try (have : w6.heap.size + 1 + 1 < w9.heap.size := (by omega)))
      (try (have : w6.heap.size + 1 + 1 < w9.heap.size + 1 := (by omega)))
      (try (have : w6.heap.size + 1 + 1 < w9.heap.size + 1 + 1 := (by omega)))
      (try (have : w6.heap.size + 1 + 1 + 1 < w9.heap.size := (by omega)))
      (try (have : w6.heap.size + 1 + 1 + 1 < w9.heap.size + 1 := (by omega)))
      (try (have : w6.heap.size + 1 + 1 + 1 < w9.heap.size + 1 + 1 := (by omega)))
      (try (have : w7.heap.size < w9.heap.size := (by omega)))
      (try (have : w7.heap.size < w9.heap.size + 1 := (by omega)))
      (try (have : w7.heap.size < w9.heap.size + 1 + 1 := (by omega)))
      (try (have : w7.heap.size + 1 < w9.heap.size := (by omega)))
      (try (have : w7.heap.size + 1 < w9.heap.size + 1 := (by omega)))
      (try (have : w7.heap.size + 1 < w9.heap.size + 1 + 1 := (by omega)))
      (try (have : w7.heap.size + 1 + 1 < w9.heap.size := (by omega)))
      (try (have : w7.heap.size + 1 + 1 < w9.heap.size + 1 := (by omega)))
      (try (have : w7.heap.size + 1 + 1 < w9.heap.size + 1 + 1 := (by omega)))
      (try (have : w7.heap.size + 1 + 1 + 1 < w9.heap.size := (by omega)))
      (try (have : w7.heap.size + 1 + 1 + 1 < w9.heap.size + 1 := (by omega)))
      (try (have : w7.heap.size + 1 + 1 + 1 < w9.heap.size + 1 + 1 := (by omega)))
      (try (have : w8.heap.size < w9.heap.size := (by omega)))
      (try (have : w8.heap.size < w9.heap.size + 1 := (by omega)))
      (try (have : w8.heap.size < w9.heap.size + 1 + 1 := (by omega)))
      (try (have : w8.heap.size + 1 < w9.heap.size := (by omega)))
      (try (have : w8.heap.size + 1 < w9.heap.size + 1 := (by omega)))
      (try (have : w8.heap.size + 1 < w9.heap.size + 1 + 1 := (by omega)))
      (try (have : w8.heap.size + 1 + 1 < w9.heap.size := (by omega)))
      (try (have : w8.heap.size + 1 + 1 < w9.heap.size + 1 := (by omega)))
      (try (have : w8.heap.size + 1 + 1 < w9.heap.size + 1 + 1 := (by omega)))
      (try (have : w8.heap.size + 1 + 1 + 1 < w9.heap.size := (by omega)))
      (try (have : w8.heap.size + 1 + 1 + 1 < w9.heap.size + 1 := (by omega)))
      (try (have : w8.heap.size + 1 + 1 + 1 < w9.heap.size + 1 + 1 := (by omega)))
      (try (have : b2 < w9.heap.size := (by omega)))
      (try (have : b2 < w9.heap.size + 1 := (by omega)))
      (try (have : b2 < w9.heap.size + 1 + 1 := (by omega)))
      simp only [List.drop_succ_cons, List.drop_zero, List.drop_nil]
      go_wp2
      have kb : Hid (w9.heap[w8.heap.size]? = some (.cells #[.int .i64 l0, .int .i64 h0, .int .i64 l1, .int .i64 h1, .int .i64 l2, .int .i64 h2] 45 (0, 0))) := by unfold Hid; repeat' first | with_reducible assumption | with_reducible exact Free.blk_new _ (by first | rfl | (simp; done)) | with_reducible refine Free.blk_alloc_old ?_ | with_reducible refine Free.blk_drew ?_ | with_reducible refine Free.blk_setCell_far ?_ (by first | omega | (simp; done) | (simp; omega)) _ | with_reducible apply Free.blk_setCell_to | (show Array.setIfInBounds _ _ _ = _; first | exact rfl | (simp; done)) | with_reducible refine Free.blk_below ?_ (by assumption)
      have kp := HK9_9
      have k4' : Hid (w9.heap[w.heap.size + 1]? = some (.cells #[.int .i64 x, .int .i64 y, .int .i64 z] 26 (0, 0))) := by unfold Hid; repeat' first | with_reducible assumption | with_reducible exact Free.blk_new _ (by first | rfl | (simp; done)) | with_reducible refine Free.blk_alloc_old ?_ | with_reducible refine Free.blk_drew ?_ | with_reducible refine Free.blk_setCell_far ?_ (by first | omega | (simp; done) | (simp; omega)) _ | with_reducible apply Free.blk_setCell_to | (show Array.setIfInBounds _ _ _ = _; first | exact rfl | (simp; done)) | with_reducible refine Free.blk_below ?_ (by assumption)
      have HB9 : Hid (Below w.heap.size w w9) := by unfold Hid; repeat' first | with_reducible exact Below.refl _ _ | with_reducible assumption | with_reducible refine Free.Grow.alloc ?_ _ | with_reducible refine Free.Grow.setCell ?_ (by first | omega | (simp; done) | (simp; omega)) _ | with_reducible refine Free.Grow.drew ?_ | with_reducible refine Free.Grow.trans ?_ (by assumption)
      have K3' : Hid (w9.heap[w.heap.size]? = some (.cells #[.string nm, .int .i64 bd, .slice (some ⟨b, off, none⟩) l.length cap, .slice (some ⟨b2, off2, none⟩) n2 cap2] 66 (0, 0))) := by unfold Hid; repeat' first | with_reducible assumption | with_reducible exact Free.blk_new _ (by first | rfl | (simp; done)) | with_reducible refine Free.blk_alloc_old ?_ | with_reducible refine Free.blk_drew ?_ | with_reducible refine Free.blk_setCell_far ?_ (by first | omega | (simp; done) | (simp; omega)) _ | with_reducible apply Free.blk_setCell_to | (show Array.setIfInBounds _ _ _ = _; first | exact rfl | (simp; done)) | with_reducible refine Free.blk_below ?_ (by assumption)
      have K5' : Hid (w9.heap[w.heap.size + 1 + 1]? = some (.cells #[.int .i64 lo, .int .i64 hi, .int .i64 wi] 58 (0, 0))) := by unfold Hid; repeat' first | with_reducible assumption | with_reducible exact Free.blk_new _ (by first | rfl | (simp; done)) | with_reducible refine Free.blk_alloc_old ?_ | with_reducible refine Free.blk_drew ?_ | with_reducible refine Free.blk_setCell_far ?_ (by first | omega | (simp; done) | (simp; omega)) _ | with_reducible apply Free.blk_setCell_to | (show Array.setIfInBounds _ _ _ = _; first | exact rfl | (simp; done)) | with_reducible refine Free.blk_below ?_ (by assumption)
      have K7' : Hid (w9.heap[w1.heap.size]? = some (.cells #[.string nm, .int .i64 bd, .slice (some ⟨b, off, none⟩) l.length cap] 24 (0, 0))) := by unfold Hid; repeat' first | with_reducible assumption | with_reducible exact Free.blk_new _ (by first | rfl | (simp; done)) | with_reducible refine Free.blk_alloc_old ?_ | with_reducible refine Free.blk_drew ?_ | with_reducible refine Free.blk_setCell_far ?_ (by first | omega | (simp; done) | (simp; omega)) _ | with_reducible apply Free.blk_setCell_to | (show Array.setIfInBounds _ _ _ = _; first | exact rfl | (simp; done)) | with_reducible refine Free.blk_below ?_ (by assumption)
      go_loopw [16, 17, 18, 19] (fun s i _ _ wv => ∃ n : Nat, n ≤ 3 ∧ i = .int .i64 n ∧ s = .int .i64 (ps ((l0 + f0 - x) * (l0 + f0 - x)) ((l1 + f1 - y) * (l1 + f1 - y)) ((l2 + f2 - z) * (l2 + f2 - z)) n) ∧ Hid (Below w9.heap.size w9 wv)) (fun _ i _ _ _ => 3 - (intOf i).toNat)
      case atStart => exact ⟨0, by omega, rfl, rfl, Below.refl _ _⟩
      case round =>
        obtain ⟨n, hn, rfl, rfl, HBV⟩ := hrel
        have hbv := HBV.out
        have hB9 := HB9.out
        have kbv := Free.blk_below kb.out hbv
        have kpv := Free.blk_below kp.out hbv
        have k4v := Free.blk_below k4'.out hbv
        have cbv := Free.cell_of_blk kbv
        have cpv := Free.cell_of_blk kpv
        have c4v := Free.cell_of_blk k4v
        have lbv := Free.lt_of_blk kbv
        have lpv := Free.lt_of_blk kpv
        have l4v := Free.lt_of_blk k4v
        have hzv := hbv.size
        have hn4 : n = 0 ∨ n = 1 ∨ n = 2 ∨ n = 3 := by omega
        clear hn kbv kpv k4v d1 d2 d3 k3 k4 k5 k7 c3 c4 c5 c7
        have i0 : ∀ w, (Instr.index 67 (.agg #[.int .i64 x, .int .i64 y, .int .i64 z]) (.int .i64 0)).run Try.prog w = .ok (.int .i64 x) w := fun _ => by kernel_rfl
        have i1 : ∀ w, (Instr.index 67 (.agg #[.int .i64 x, .int .i64 y, .int .i64 z]) (.int .i64 1)).run Try.prog w = .ok (.int .i64 y) w := fun _ => by kernel_rfl
        have i2 : ∀ w, (Instr.index 67 (.agg #[.int .i64 x, .int .i64 y, .int .i64 z]) (.int .i64 2)).run Try.prog w = .ok (.int .i64 z) w := fun _ => by kernel_rfl
        rcases hn4 with rfl | rfl | rfl | rfl
        all_goals simp only [ps_0, ps_1, ps_2, ps_3]
        · go_wp2
          refine Free.wp_region 17 #[0, 1, 3, 7, 0, 16, 48, 112, 255, 511, 1023, 2047, 4095, 8191, 16383, 32767, 65535] (by kernel_rfl) (by kernel_rfl) ?_
          simp only [List.take_succ_cons, List.take_zero]
          iterate 11
            refine Free.E.q (by rfl) ?_
            apply Exists.intro
            refine ⟨fun u w' hc hb => ?_, ?_⟩
            go_simp
            (try go_ints); (try simp only [Ob.ite_imx, Ob.ite_imn]); first | exact rfl | (go_simp; exact rfl) | ((go_at_call 21; with_reducible exact Free.Calls.grow (HW0.out _))) | (simp only [↓IntWalk.iteOmega]; (try go_simp); exact rfl)
            simp only [Act.put, List.setIfInBounds_toArray, List.set_cons_zero, List.set_cons_succ, List.nil_append, List.cons_append]
          iterate 5
            first
              | (refine Free.E.no ?_ ?_
                 (intro _; rfl)
                 simp only [Act.put, List.setIfInBounds_toArray, List.set_cons_zero, List.set_cons_succ, List.nil_append, List.cons_append])
              | (refine Free.E.qy ?_ ?_
                 (intro _; rfl)
                 apply Exists.intro
                 refine ⟨fun u w' hc hb => ?_, ?_⟩
                 go_simp
                 (try go_ints); (try simp only [Ob.ite_imx, Ob.ite_imn]); first | exact rfl | (go_simp; exact rfl) | ((go_at_call 21; with_reducible exact Free.Calls.grow (HW0.out _))) | (simp only [↓IntWalk.iteOmega]; (try go_simp); exact rfl)
                 simp only [Act.put, List.setIfInBounds_toArray, List.set_cons_zero, List.set_cons_succ, List.nil_append, List.cons_append])
          iterate 1
            refine Free.E.q (by rfl) ?_
            apply Exists.intro
            refine ⟨fun u w' hc hb => ?_, ?_⟩
            go_simp
            (try go_ints); (try simp only [Ob.ite_imx, Ob.ite_imn]); first | exact rfl | (go_simp; exact rfl) | ((go_at_call 21; with_reducible exact Free.Calls.grow (HW0.out _))) | (simp only [↓IntWalk.iteOmega]; (try go_simp); exact rfl)
            simp only [Act.put, List.setIfInBounds_toArray, List.set_cons_zero, List.set_cons_succ, List.nil_append, List.cons_append]
          refine Free.E.nil (fun u wa S hF => ?_)
          have hba := hF.below
          clear hF
          have hca := (Free.cells_of hba).1
          have hfa := (Free.cells_of hba).2
          have hza := hba.size
          try simp only [World.size_alloc, World.size_setCell, World.size_drew] at hza
          (try (have : w.heap.size < wa.heap.size := (by omega)))
          (try (have : w.heap.size < wa.heap.size + 1 := (by omega)))
          (try (have : w.heap.size < wa.heap.size + 1 + 1 := (by omega)))
          (try (have : w.heap.size + 1 < wa.heap.size := (by omega)))
          (try (have : w.heap.size + 1 < wa.heap.size + 1 := (by omega)))
          (try (have : w.heap.size + 1 < wa.heap.size + 1 + 1 := (by omega)))
          (try (have : w.heap.size + 1 + 1 < wa.heap.size := (by omega)))
          (try (have : w.heap.size + 1 + 1 < wa.heap.size + 1 := (by omega)))
          (try (have : w.heap.size + 1 + 1 < wa.heap.size + 1 + 1 := (by omega)))
          (try (have : w.heap.size + 1 + 1 + 1 < wa.heap.size := (by omega)))
          (try (have : w.heap.size + 1 + 1 + 1 < wa.heap.size + 1 := (by omega)))
          (try (have : w.heap.size + 1 + 1 + 1 < wa.heap.size + 1 + 1 := (by omega)))
          (try (have : w1.heap.size < wa.heap.size := (by omega)))
          (try (have : w1.heap.size < wa.heap.size + 1 := (by omega)))
          (try (have : w1.heap.size < wa.heap.size + 1 + 1 := (by omega)))
          (try (have : w1.heap.size + 1 < wa.heap.size := (by omega)))
          (try (have : w1.heap.size + 1 < wa.heap.size + 1 := (by omega)))
          (try (have : w1.heap.size + 1 < wa.heap.size + 1 + 1 := (by omega)))
          (try (have : w1.heap.size + 1 + 1 < wa.heap.size := (by omega)))
          (try (have : w1.heap.size + 1 + 1 < wa.heap.size + 1 := (by omega)))
          (try (have : w1.heap.size + 1 + 1 < wa.heap.size + 1 + 1 := (by omega)))
          (try (have : w1.heap.size + 1 + 1 + 1 < wa.heap.size := (by omega)))
          (try (have : w1.heap.size + 1 + 1 + 1 < wa.heap.size + 1 := (by omega)))
          (try (have : w1.heap.size + 1 + 1 + 1 < wa.heap.size + 1 + 1 := (by omega)))
          (try (have : w8.heap.size < wa.heap.size := (by omega)))
          (try (have : w8.heap.size < wa.heap.size + 1 := (by omega)))
          (try (have : w8.heap.size < wa.heap.size + 1 + 1 := (by omega)))
          (try (have : w8.heap.size + 1 < wa.heap.size := (by omega)))
          (try (have : w8.heap.size + 1 < wa.heap.size + 1 := (by omega)))
          (try (have : w8.heap.size + 1 < wa.heap.size + 1 + 1 := (by omega)))
          (try (have : w8.heap.size + 1 + 1 < wa.heap.size := (by omega)))
          (try (have : w8.heap.size + 1 + 1 < wa.heap.size + 1 := (by omega)))
          (try (have : w8.heap.size + 1 + 1 < wa.heap.size + 1 + 1 := (by omega)))
          (try (have : w8.heap.size + 1 + 1 + 1 < wa.heap.size := (by omega)))
          (try (have : w8.heap.size + 1 + 1 + 1 < wa.heap.size + 1 := (by omega)))
          (try (have : w8.heap.size + 1 + 1 + 1 < wa.heap.size + 1 + 1 := (by omega)))
          (try (have : w9.heap.size < wa.heap.size := (by omega)))
          (try (have : w9.heap.size < wa.heap.size + 1 := (by omega)))
          (try (have : w9.heap.size < wa.heap.size + 1 + 1 := (by omega)))
          (try (have : w9.heap.size + 1 < wa.heap.size := (by omega)))
          (try (have : w9.heap.size + 1 < wa.heap.size + 1 := (by omega)))
          (try (have : w9.heap.size + 1 < wa.heap.size + 1 + 1 := (by omega)))
          (try (have : w9.heap.size + 1 + 1 < wa.heap.size := (by omega)))
          (try (have : w9.heap.size + 1 + 1 < wa.heap.size + 1 := (by omega)))
          (try (have : w9.heap.size + 1 + 1 < wa.heap.size + 1 + 1 := (by omega)))
          (try (have : w9.heap.size + 1 + 1 + 1 < wa.heap.size := (by omega)))
          (try (have : w9.heap.size + 1 + 1 + 1 < wa.heap.size + 1 := (by omega)))
          (try (have : w9.heap.size + 1 + 1 + 1 < wa.heap.size + 1 + 1 := (by omega)))
          (try (have : wv.heap.size < wa.heap.size := (by omega)))
          (try (have : wv.heap.size < wa.heap.size + 1 := (by omega)))
          (try (have : wv.heap.size < wa.heap.size + 1 + 1 := (by omega)))
          (try (have : wv.heap.size + 1 < wa.heap.size := (by omega)))
          (try (have : wv.heap.size + 1 < wa.heap.size + 1 := (by omega)))
          (try (have : wv.heap.size + 1 < wa.heap.size + 1 + 1 := (by omega)))
          (try (have : wv.heap.size + 1 + 1 < wa.heap.size := (by omega)))
          (try (have : wv.heap.size + 1 + 1 < wa.heap.size + 1 := (by omega)))
          (try (have : wv.heap.size + 1 + 1 < wa.heap.size + 1 + 1 := (by omega)))
          (try (have : wv.heap.size + 1 + 1 + 1 < wa.heap.size := (by omega)))
          (try (have : wv.heap.size + 1 + 1 + 1 < wa.heap.size + 1 := (by omega)))
          (try (have : wv.heap.size + 1 + 1 + 1 < wa.heap.size + 1 + 1 := (by omega)))
          (try (have : b9_9 < wa.heap.size := (by omega)))
          (try (have : b9_9 < wa.heap.size + 1 := (by omega)))
          (try (have : b9_9 < wa.heap.size + 1 + 1 := (by omega)))
          simp only [List.drop_succ_cons, List.drop_zero, List.drop_nil]
          go_wp2
          refine Free.wp_region 21 #[0, 1, 3, 7, 0, 16, 48, 112, 0, 256, 768, 1792, 4080, 0, 8192, 24576, 57344, 131056, 262128, 524287, 1048575] (by kernel_rfl) (by kernel_rfl) ?_
          simp only [List.take_succ_cons, List.take_zero]
          iterate 21
            refine Free.E.q (by rfl) ?_
            apply Exists.intro
            refine ⟨fun u w' hc hb => ?_, ?_⟩
            go_simp
            (try go_ints); (try simp only [Ob.ite_imx, Ob.ite_imn]); first | exact rfl | (go_simp; exact rfl) | ((go_at_call 35; with_reducible exact Free.Calls.grow (HM0.out _))) | ((go_at_call 36; with_reducible exact Free.Calls.grow (HF0.out _))) | (simp only [↓IntWalk.iteOmega]; (try go_simp); exact rfl)
            simp only [Act.put, List.setIfInBounds_toArray, List.set_cons_zero, List.set_cons_succ, List.nil_append, List.cons_append]
          refine Free.E.nil (fun u wb S hF => ?_)
          have hbb := hF.below
          clear hF
          have hcb := (Free.cells_of hbb).1
          have hfb := (Free.cells_of hbb).2
          have hzb := hbb.size
          try simp only [World.size_alloc, World.size_setCell, World.size_drew] at hzb
          (try (have : w.heap.size < wb.heap.size := (by omega)))
          (try (have : w.heap.size < wb.heap.size + 1 := (by omega)))
          (try (have : w.heap.size < wb.heap.size + 1 + 1 := (by omega)))
          (try (have : w.heap.size + 1 < wb.heap.size := (by omega)))
          (try (have : w.heap.size + 1 < wb.heap.size + 1 := (by omega)))
          (try (have : w.heap.size + 1 < wb.heap.size + 1 + 1 := (by omega)))
          (try (have : w.heap.size + 1 + 1 < wb.heap.size := (by omega)))
          (try (have : w.heap.size + 1 + 1 < wb.heap.size + 1 := (by omega)))
          (try (have : w.heap.size + 1 + 1 < wb.heap.size + 1 + 1 := (by omega)))
          (try (have : w.heap.size + 1 + 1 + 1 < wb.heap.size := (by omega)))
          (try (have : w.heap.size + 1 + 1 + 1 < wb.heap.size + 1 := (by omega)))
          (try (have : w.heap.size + 1 + 1 + 1 < wb.heap.size + 1 + 1 := (by omega)))
          (try (have : w1.heap.size < wb.heap.size := (by omega)))
          (try (have : w1.heap.size < wb.heap.size + 1 := (by omega)))
          (try (have : w1.heap.size < wb.heap.size + 1 + 1 := (by omega)))
          (try (have : w1.heap.size + 1 < wb.heap.size := (by omega)))
          (try (have : w1.heap.size + 1 < wb.heap.size + 1 := (by omega)))
          (try (have : w1.heap.size + 1 < wb.heap.size + 1 + 1 := (by omega)))
          (try (have : w1.heap.size + 1 + 1 < wb.heap.size := (by omega)))
          (try (have : w1.heap.size + 1 + 1 < wb.heap.size + 1 := (by omega)))
          (try (have : w1.heap.size + 1 + 1 < wb.heap.size + 1 + 1 := (by omega)))
          (try (have : w1.heap.size + 1 + 1 + 1 < wb.heap.size := (by omega)))
          (try (have : w1.heap.size + 1 + 1 + 1 < wb.heap.size + 1 := (by omega)))
          (try (have : w1.heap.size + 1 + 1 + 1 < wb.heap.size + 1 + 1 := (by omega)))
          (try (have : w8.heap.size < wb.heap.size := (by omega)))
          (try (have : w8.heap.size < wb.heap.size + 1 := (by omega)))
          (try (have : w8.heap.size < wb.heap.size + 1 + 1 := (by omega)))
          (try (have : w8.heap.size + 1 < wb.heap.size := (by omega)))
          (try (have : w8.heap.size + 1 < wb.heap.size + 1 := (by omega)))
          (try (have : w8.heap.size + 1 < wb.heap.size + 1 + 1 := (by omega)))
          (try (have : w8.heap.size + 1 + 1 < wb.heap.size := (by omega)))
          (try (have : w8.heap.size + 1 + 1 < wb.heap.size + 1 := (by omega)))
          (try (have : w8.heap.size + 1 + 1 < wb.heap.size + 1 + 1 := (by omega)))
          (try (have : w8.heap.size + 1 + 1 + 1 < wb.heap.size := (by omega)))
          (try (have : w8.heap.size + 1 + 1 + 1 < wb.heap.size + 1 := (by omega)))
          (try (have : w8.heap.size + 1 + 1 + 1 < wb.heap.size + 1 + 1 := (by omega)))
          (try (have : w9.heap.size < wb.heap.size := (by omega)))
          (try (have : w9.heap.size < wb.heap.size + 1 := (by omega)))
          (try (have : w9.heap.size < wb.heap.size + 1 + 1 := (by omega)))
          (try (have : w9.heap.size + 1 < wb.heap.size := (by omega)))
          (try (have : w9.heap.size + 1 < wb.heap.size + 1 := (by omega)))
          (try (have : w9.heap.size + 1 < wb.heap.size + 1 + 1 := (by omega)))
          (try (have : w9.heap.size + 1 + 1 < wb.heap.size := (by omega)))
          (try (have : w9.heap.size + 1 + 1 < wb.heap.size + 1 := (by omega)))
          (try (have : w9.heap.size + 1 + 1 < wb.heap.size + 1 + 1 := (by omega)))
          (try (have : w9.heap.size + 1 + 1 + 1 < wb.heap.size := (by omega)))
          (try (have : w9.heap.size + 1 + 1 + 1 < wb.heap.size + 1 := (by omega)))
          (try (have : w9.heap.size + 1 + 1 + 1 < wb.heap.size + 1 + 1 := (by omega)))
          (try (have : wv.heap.size < wb.heap.size := (by omega)))
          (try (have : wv.heap.size < wb.heap.size + 1 := (by omega)))
          (try (have : wv.heap.size < wb.heap.size + 1 + 1 := (by omega)))
          (try (have : wv.heap.size + 1 < wb.heap.size := (by omega)))
          (try (have : wv.heap.size + 1 < wb.heap.size + 1 := (by omega)))
          (try (have : wv.heap.size + 1 < wb.heap.size + 1 + 1 := (by omega)))
          (try (have : wv.heap.size + 1 + 1 < wb.heap.size := (by omega)))
          (try (have : wv.heap.size + 1 + 1 < wb.heap.size + 1 := (by omega)))
          (try (have : wv.heap.size + 1 + 1 < wb.heap.size + 1 + 1 := (by omega)))
          (try (have : wv.heap.size + 1 + 1 + 1 < wb.heap.size := (by omega)))
          (try (have : wv.heap.size + 1 + 1 + 1 < wb.heap.size + 1 := (by omega)))
          (try (have : wv.heap.size + 1 + 1 + 1 < wb.heap.size + 1 + 1 := (by omega)))
          (try (have : wa.heap.size < wb.heap.size := (by omega)))
          (try (have : wa.heap.size < wb.heap.size + 1 := (by omega)))
          (try (have : wa.heap.size < wb.heap.size + 1 + 1 := (by omega)))
          (try (have : wa.heap.size + 1 < wb.heap.size := (by omega)))
          (try (have : wa.heap.size + 1 < wb.heap.size + 1 := (by omega)))
          (try (have : wa.heap.size + 1 < wb.heap.size + 1 + 1 := (by omega)))
          (try (have : wa.heap.size + 1 + 1 < wb.heap.size := (by omega)))
          (try (have : wa.heap.size + 1 + 1 < wb.heap.size + 1 := (by omega)))
          (try (have : wa.heap.size + 1 + 1 < wb.heap.size + 1 + 1 := (by omega)))
          (try (have : wa.heap.size + 1 + 1 + 1 < wb.heap.size := (by omega)))
          (try (have : wa.heap.size + 1 + 1 + 1 < wb.heap.size + 1 := (by omega)))
          (try (have : wa.heap.size + 1 + 1 + 1 < wb.heap.size + 1 + 1 := (by omega)))
          (try (have : b9_9 < wb.heap.size := (by omega)))
          (try (have : b9_9 < wb.heap.size + 1 := (by omega)))
          (try (have : b9_9 < wb.heap.size + 1 + 1 := (by omega)))
          simp only [List.drop_succ_cons, List.drop_zero, List.drop_nil]
          go_wp2
          go_roundw
          case measure => simp [intOf]
          case rel => exact ⟨1, by omega, rfl, by simp only [ps_0, ps_1, ps_2, ps_3, Int.zero_add], Lib.hid (by repeat' first | with_reducible exact Below.refl _ _ | with_reducible assumption | with_reducible refine Free.Grow.alloc ?_ _ | with_reducible refine Free.Grow.setCell ?_ (by first | omega | (simp; done) | (simp; omega)) _ | with_reducible refine Free.Grow.drew ?_ | with_reducible refine Free.Grow.trans ?_ (by assumption))⟩
        · go_wp2
          refine Free.wp_region 17 #[0, 1, 3, 7, 0, 16, 48, 112, 255, 511, 1023, 2047, 4095, 8191, 16383, 32767, 65535] (by kernel_rfl) (by kernel_rfl) ?_
          simp only [List.take_succ_cons, List.take_zero]
          iterate 11
            refine Free.E.q (by rfl) ?_
            apply Exists.intro
            refine ⟨fun u w' hc hb => ?_, ?_⟩
            go_simp
            (try go_ints); (try simp only [Ob.ite_imx, Ob.ite_imn]); first | exact rfl | (go_simp; exact rfl) | ((go_at_call 21; with_reducible exact Free.Calls.grow (HW1.out _))) | (simp only [↓IntWalk.iteOmega]; (try go_simp); exact rfl)
            simp only [Act.put, List.setIfInBounds_toArray, List.set_cons_zero, List.set_cons_succ, List.nil_append, List.cons_append]
          iterate 5
            first
              | (refine Free.E.no ?_ ?_
                 (intro _; rfl)
                 simp only [Act.put, List.setIfInBounds_toArray, List.set_cons_zero, List.set_cons_succ, List.nil_append, List.cons_append])
              | (refine Free.E.qy ?_ ?_
                 (intro _; rfl)
                 apply Exists.intro
                 refine ⟨fun u w' hc hb => ?_, ?_⟩
                 go_simp
                 (try go_ints); (try simp only [Ob.ite_imx, Ob.ite_imn]); first | exact rfl | (go_simp; exact rfl) | ((go_at_call 21; with_reducible exact Free.Calls.grow (HW1.out _))) | (simp only [↓IntWalk.iteOmega]; (try go_simp); exact rfl)
                 simp only [Act.put, List.setIfInBounds_toArray, List.set_cons_zero, List.set_cons_succ, List.nil_append, List.cons_append])
          iterate 1
            refine Free.E.q (by rfl) ?_
            apply Exists.intro
            refine ⟨fun u w' hc hb => ?_, ?_⟩
            go_simp
            (try go_ints); (try simp only [Ob.ite_imx, Ob.ite_imn]); first | exact rfl | (go_simp; exact rfl) | ((go_at_call 21; with_reducible exact Free.Calls.grow (HW1.out _))) | (simp only [↓IntWalk.iteOmega]; (try go_simp); exact rfl)
            simp only [Act.put, List.setIfInBounds_toArray, List.set_cons_zero, List.set_cons_succ, List.nil_append, List.cons_append]
          refine Free.E.nil (fun u wa S hF => ?_)
          have hba := hF.below
          clear hF
          have hca := (Free.cells_of hba).1
          have hfa := (Free.cells_of hba).2
          have hza := hba.size
          try simp only [World.size_alloc, World.size_setCell, World.size_drew] at hza
          (try (have : w.heap.size < wa.heap.size := (by omega)))
          (try (have : w.heap.size < wa.heap.size + 1 := (by omega)))
          (try (have : w.heap.size < wa.heap.size + 1 + 1 := (by omega)))
          (try (have : w.heap.size + 1 < wa.heap.size := (by omega)))
          (try (have : w.heap.size + 1 < wa.heap.size + 1 := (by omega)))
          (try (have : w.heap.size + 1 < wa.heap.size + 1 + 1 := (by omega)))
          (try (have : w.heap.size + 1 + 1 < wa.heap.size := (by omega)))
          (try (have : w.heap.size + 1 + 1 < wa.heap.size + 1 := (by omega)))
          (try (have : w.heap.size + 1 + 1 < wa.heap.size + 1 + 1 := (by omega)))
          (try (have : w.heap.size + 1 + 1 + 1 < wa.heap.size := (by omega)))
          (try (have : w.heap.size + 1 + 1 + 1 < wa.heap.size + 1 := (by omega)))
          (try (have : w.heap.size + 1 + 1 + 1 < wa.heap.size + 1 + 1 := (by omega)))
          (try (have : w1.heap.size < wa.heap.size := (by omega)))
          (try (have : w1.heap.size < wa.heap.size + 1 := (by omega)))
          (try (have : w1.heap.size < wa.heap.size + 1 + 1 := (by omega)))
          (try (have : w1.heap.size + 1 < wa.heap.size := (by omega)))
          (try (have : w1.heap.size + 1 < wa.heap.size + 1 := (by omega)))
          (try (have : w1.heap.size + 1 < wa.heap.size + 1 + 1 := (by omega)))
          (try (have : w1.heap.size + 1 + 1 < wa.heap.size := (by omega)))
          (try (have : w1.heap.size + 1 + 1 < wa.heap.size + 1 := (by omega)))
          (try (have : w1.heap.size + 1 + 1 < wa.heap.size + 1 + 1 := (by omega)))
          (try (have : w1.heap.size + 1 + 1 + 1 < wa.heap.size := (by omega)))
          (try (have : w1.heap.size + 1 + 1 + 1 < wa.heap.size + 1 := (by omega)))
          (try (have : w1.heap.size + 1 + 1 + 1 < wa.heap.size + 1 + 1 := (by omega)))
          (try (have : w8.heap.size < wa.heap.size := (by omega)))
          (try (have : w8.heap.size < wa.heap.size + 1 := (by omega)))
          (try (have : w8.heap.size < wa.heap.size + 1 + 1 := (by omega)))
          (try (have : w8.heap.size + 1 < wa.heap.size := (by omega)))
          (try (have : w8.heap.size + 1 < wa.heap.size + 1 := (by omega)))
          (try (have : w8.heap.size + 1 < wa.heap.size + 1 + 1 := (by omega)))
          (try (have : w8.heap.size + 1 + 1 < wa.heap.size := (by omega)))
          (try (have : w8.heap.size + 1 + 1 < wa.heap.size + 1 := (by omega)))
          (try (have : w8.heap.size + 1 + 1 < wa.heap.size + 1 + 1 := (by omega)))
          (try (have : w8.heap.size + 1 + 1 + 1 < wa.heap.size := (by omega)))
          (try (have : w8.heap.size + 1 + 1 + 1 < wa.heap.size + 1 := (by omega)))
          (try (have : w8.heap.size + 1 + 1 + 1 < wa.heap.size + 1 + 1 := (by omega)))
          (try (have : w9.heap.size < wa.heap.size := (by omega)))
          (try (have : w9.heap.size < wa.heap.size + 1 := (by omega)))
          (try (have : w9.heap.size < wa.heap.size + 1 + 1 := (by omega)))
          (try (have : w9.heap.size + 1 < wa.heap.size := (by omega)))
          (try (have : w9.heap.size + 1 < wa.heap.size + 1 := (by omega)))
          (try (have : w9.heap.size + 1 < wa.heap.size + 1 + 1 := (by omega)))
          (try (have : w9.heap.size + 1 + 1 < wa.heap.size := (by omega)))
          (try (have : w9.heap.size + 1 + 1 < wa.heap.size + 1 := (by omega)))
          (try (have : w9.heap.size + 1 + 1 < wa.heap.size + 1 + 1 := (by omega)))
          (try (have : w9.heap.size + 1 + 1 + 1 < wa.heap.size := (by omega)))
          (try (have : w9.heap.size + 1 + 1 + 1 < wa.heap.size + 1 := (by omega)))
          (try (have : w9.heap.size + 1 + 1 + 1 < wa.heap.size + 1 + 1 := (by omega)))
          (try (have : wv.heap.size < wa.heap.size := (by omega)))
          (try (have : wv.heap.size < wa.heap.size + 1 := (by omega)))
          (try (have : wv.heap.size < wa.heap.size + 1 + 1 := (by omega)))
          (try (have : wv.heap.size + 1 < wa.heap.size := (by omega)))
          (try (have : wv.heap.size + 1 < wa.heap.size + 1 := (by omega)))
          (try (have : wv.heap.size + 1 < wa.heap.size + 1 + 1 := (by omega)))
          (try (have : wv.heap.size + 1 + 1 < wa.heap.size := (by omega)))
          (try (have : wv.heap.size + 1 + 1 < wa.heap.size + 1 := (by omega)))
          (try (have : wv.heap.size + 1 + 1 < wa.heap.size + 1 + 1 := (by omega)))
          (try (have : wv.heap.size + 1 + 1 + 1 < wa.heap.size := (by omega)))
          (try (have : wv.heap.size + 1 + 1 + 1 < wa.heap.size + 1 := (by omega)))
          (try (have : wv.heap.size + 1 + 1 + 1 < wa.heap.size + 1 + 1 := (by omega)))
          (try (have : b9_9 < wa.heap.size := (by omega)))
          (try (have : b9_9 < wa.heap.size + 1 := (by omega)))
          (try (have : b9_9 < wa.heap.size + 1 + 1 := (by omega)))
          simp only [List.drop_succ_cons, List.drop_zero, List.drop_nil]
          go_wp2
          refine Free.wp_region 21 #[0, 1, 3, 7, 0, 16, 48, 112, 0, 256, 768, 1792, 4080, 0, 8192, 24576, 57344, 131056, 262128, 524287, 1048575] (by kernel_rfl) (by kernel_rfl) ?_
          simp only [List.take_succ_cons, List.take_zero]
          iterate 21
            refine Free.E.q (by rfl) ?_
            apply Exists.intro
            refine ⟨fun u w' hc hb => ?_, ?_⟩
            go_simp
            (try go_ints); (try simp only [Ob.ite_imx, Ob.ite_imn]); first | exact rfl | (go_simp; exact rfl) | ((go_at_call 35; with_reducible exact Free.Calls.grow (HM1.out _))) | ((go_at_call 36; with_reducible exact Free.Calls.grow (HF1.out _))) | (simp only [↓IntWalk.iteOmega]; (try go_simp); exact rfl)
            simp only [Act.put, List.setIfInBounds_toArray, List.set_cons_zero, List.set_cons_succ, List.nil_append, List.cons_append]
          refine Free.E.nil (fun u wb S hF => ?_)
          have hbb := hF.below
          clear hF
          have hcb := (Free.cells_of hbb).1
          have hfb := (Free.cells_of hbb).2
          have hzb := hbb.size
          try simp only [World.size_alloc, World.size_setCell, World.size_drew] at hzb
          (try (have : w.heap.size < wb.heap.size := (by omega)))
          (try (have : w.heap.size < wb.heap.size + 1 := (by omega)))
          (try (have : w.heap.size < wb.heap.size + 1 + 1 := (by omega)))
          (try (have : w.heap.size + 1 < wb.heap.size := (by omega)))
          (try (have : w.heap.size + 1 < wb.heap.size + 1 := (by omega)))
          (try (have : w.heap.size + 1 < wb.heap.size + 1 + 1 := (by omega)))
          (try (have : w.heap.size + 1 + 1 < wb.heap.size := (by omega)))
          (try (have : w.heap.size + 1 + 1 < wb.heap.size + 1 := (by omega)))
          (try (have : w.heap.size + 1 + 1 < wb.heap.size + 1 + 1 := (by omega)))
          (try (have : w.heap.size + 1 + 1 + 1 < wb.heap.size := (by omega)))
          (try (have : w.heap.size + 1 + 1 + 1 < wb.heap.size + 1 := (by omega)))
          (try (have : w.heap.size + 1 + 1 + 1 < wb.heap.size + 1 + 1 := (by omega)))
          (try (have : w1.heap.size < wb.heap.size := (by omega)))
          (try (have : w1.heap.size < wb.heap.size + 1 := (by omega)))
          (try (have : w1.heap.size < wb.heap.size + 1 + 1 := (by omega)))
          (try (have : w1.heap.size + 1 < wb.heap.size := (by omega)))
          (try (have : w1.heap.size + 1 < wb.heap.size + 1 := (by omega)))
          (try (have : w1.heap.size + 1 < wb.heap.size + 1 + 1 := (by omega)))
          (try (have : w1.heap.size + 1 + 1 < wb.heap.size := (by omega)))
          (try (have : w1.heap.size + 1 + 1 < wb.heap.size + 1 := (by omega)))
          (try (have : w1.heap.size + 1 + 1 < wb.heap.size + 1 + 1 := (by omega)))
          (try (have : w1.heap.size + 1 + 1 + 1 < wb.heap.size := (by omega)))
          (try (have : w1.heap.size + 1 + 1 + 1 < wb.heap.size + 1 := (by omega)))
          (try (have : w1.heap.size + 1 + 1 + 1 < wb.heap.size + 1 + 1 := (by omega)))
          (try (have : w8.heap.size < wb.heap.size := (by omega)))
          (try (have : w8.heap.size < wb.heap.size + 1 := (by omega)))
          (try (have : w8.heap.size < wb.heap.size + 1 + 1 := (by omega)))
          (try (have : w8.heap.size + 1 < wb.heap.size := (by omega)))
          (try (have : w8.heap.size + 1 < wb.heap.size + 1 := (by omega)))
          (try (have : w8.heap.size + 1 < wb.heap.size + 1 + 1 := (by omega)))
          (try (have : w8.heap.size + 1 + 1 < wb.heap.size := (by omega)))
          (try (have : w8.heap.size + 1 + 1 < wb.heap.size + 1 := (by omega)))
          (try (have : w8.heap.size + 1 + 1 < wb.heap.size + 1 + 1 := (by omega)))
          (try (have : w8.heap.size + 1 + 1 + 1 < wb.heap.size := (by omega)))
          (try (have : w8.heap.size + 1 + 1 + 1 < wb.heap.size + 1 := (by omega)))
          (try (have : w8.heap.size + 1 + 1 + 1 < wb.heap.size + 1 + 1 := (by omega)))
          (try (have : w9.heap.size < wb.heap.size := (by omega)))
          (try (have : w9.heap.size < wb.heap.size + 1 := (by omega)))
          (try (have : w9.heap.size < wb.heap.size + 1 + 1 := (by omega)))
          (try (have : w9.heap.size + 1 < wb.heap.size := (by omega)))
          (try (have : w9.heap.size + 1 < wb.heap.size + 1 := (by omega)))
          (try (have : w9.heap.size + 1 < wb.heap.size + 1 + 1 := (by omega)))
          (try (have : w9.heap.size + 1 + 1 < wb.heap.size := (by omega)))
          (try (have : w9.heap.size + 1 + 1 < wb.heap.size + 1 := (by omega)))
          (try (have : w9.heap.size + 1 + 1 < wb.heap.size + 1 + 1 := (by omega)))
          (try (have : w9.heap.size + 1 + 1 + 1 < wb.heap.size := (by omega)))
          (try (have : w9.heap.size + 1 + 1 + 1 < wb.heap.size + 1 := (by omega)))
          (try (have : w9.heap.size + 1 + 1 + 1 < wb.heap.size + 1 + 1 := (by omega)))
          (try (have : wv.heap.size < wb.heap.size := (by omega)))
          (try (have : wv.heap.size < wb.heap.size + 1 := (by omega)))
          (try (have : wv.heap.size < wb.heap.size + 1 + 1 := (by omega)))
          (try (have : wv.heap.size + 1 < wb.heap.size := (by omega)))
          (try (have : wv.heap.size + 1 < wb.heap.size + 1 := (by omega)))
          (try (have : wv.heap.size + 1 < wb.heap.size + 1 + 1 := (by omega)))
          (try (have : wv.heap.size + 1 + 1 < wb.heap.size := (by omega)))
          (try (have : wv.heap.size + 1 + 1 < wb.heap.size + 1 := (by omega)))
          (try (have : wv.heap.size + 1 + 1 < wb.heap.size + 1 + 1 := (by omega)))
          (try (have : wv.heap.size + 1 + 1 + 1 < wb.heap.size := (by omega)))
          (try (have : wv.heap.size + 1 + 1 + 1 < wb.heap.size + 1 := (by omega)))
          (try (have : wv.heap.size + 1 + 1 + 1 < wb.heap.size + 1 + 1 := (by omega)))
          (try (have : wa.heap.size < wb.heap.size := (by omega)))
          (try (have : wa.heap.size < wb.heap.size + 1 := (by omega)))
          (try (have : wa.heap.size < wb.heap.size + 1 + 1 := (by omega)))
          (try (have : wa.heap.size + 1 < wb.heap.size := (by omega)))
          (try (have : wa.heap.size + 1 < wb.heap.size + 1 := (by omega)))
          (try (have : wa.heap.size + 1 < wb.heap.size + 1 + 1 := (by omega)))
          (try (have : wa.heap.size + 1 + 1 < wb.heap.size := (by omega)))
          (try (have : wa.heap.size + 1 + 1 < wb.heap.size + 1 := (by omega)))
          (try (have : wa.heap.size + 1 + 1 < wb.heap.size + 1 + 1 := (by omega)))
          (try (have : wa.heap.size + 1 + 1 + 1 < wb.heap.size := (by omega)))
          (try (have : wa.heap.size + 1 + 1 + 1 < wb.heap.size + 1 := (by omega)))
          (try (have : wa.heap.size + 1 + 1 + 1 < wb.heap.size + 1 + 1 := (by omega)))
          (try (have : b9_9 < wb.heap.size := (by omega)))
          (try (have : b9_9 < wb.heap.size + 1 := (by omega)))
          (try (have : b9_9 < wb.heap.size + 1 + 1 := (by omega)))
          simp only [List.drop_succ_cons, List.drop_zero, List.drop_nil]
          go_wp2
          go_roundw
          case measure => simp [intOf]
          case rel => exact ⟨2, by omega, rfl, by simp only [ps_0, ps_1, ps_2, ps_3, Int.zero_add], Lib.hid (by repeat' first | with_reducible exact Below.refl _ _ | with_reducible assumption | with_reducible refine Free.Grow.alloc ?_ _ | with_reducible refine Free.Grow.setCell ?_ (by first | omega | (simp; done) | (simp; omega)) _ | with_reducible refine Free.Grow.drew ?_ | with_reducible refine Free.Grow.trans ?_ (by assumption))⟩
        · go_wp2
          refine Free.wp_region 17 #[0, 1, 3, 7, 0, 16, 48, 112, 255, 511, 1023, 2047, 4095, 8191, 16383, 32767, 65535] (by kernel_rfl) (by kernel_rfl) ?_
          simp only [List.take_succ_cons, List.take_zero]
          iterate 11
            refine Free.E.q (by rfl) ?_
            apply Exists.intro
            refine ⟨fun u w' hc hb => ?_, ?_⟩
            go_simp
            (try go_ints); (try simp only [Ob.ite_imx, Ob.ite_imn]); first | exact rfl | (go_simp; exact rfl) | ((go_at_call 21; with_reducible exact Free.Calls.grow (HW2.out _))) | (simp only [↓IntWalk.iteOmega]; (try go_simp); exact rfl)
            simp only [Act.put, List.setIfInBounds_toArray, List.set_cons_zero, List.set_cons_succ, List.nil_append, List.cons_append]
          iterate 5
            first
              | (refine Free.E.no ?_ ?_
                 (intro _; rfl)
                 simp only [Act.put, List.setIfInBounds_toArray, List.set_cons_zero, List.set_cons_succ, List.nil_append, List.cons_append])
              | (refine Free.E.qy ?_ ?_
                 (intro _; rfl)
                 apply Exists.intro
                 refine ⟨fun u w' hc hb => ?_, ?_⟩
                 go_simp
                 (try go_ints); (try simp only [Ob.ite_imx, Ob.ite_imn]); first | exact rfl | (go_simp; exact rfl) | ((go_at_call 21; with_reducible exact Free.Calls.grow (HW2.out _))) | (simp only [↓IntWalk.iteOmega]; (try go_simp); exact rfl)
                 simp only [Act.put, List.setIfInBounds_toArray, List.set_cons_zero, List.set_cons_succ, List.nil_append, List.cons_append])
          iterate 1
            refine Free.E.q (by rfl) ?_
            apply Exists.intro
            refine ⟨fun u w' hc hb => ?_, ?_⟩
            go_simp
            (try go_ints); (try simp only [Ob.ite_imx, Ob.ite_imn]); first | exact rfl | (go_simp; exact rfl) | ((go_at_call 21; with_reducible exact Free.Calls.grow (HW2.out _))) | (simp only [↓IntWalk.iteOmega]; (try go_simp); exact rfl)
            simp only [Act.put, List.setIfInBounds_toArray, List.set_cons_zero, List.set_cons_succ, List.nil_append, List.cons_append]
          refine Free.E.nil (fun u wa S hF => ?_)
          have hba := hF.below
          clear hF
          have hca := (Free.cells_of hba).1
          have hfa := (Free.cells_of hba).2
          have hza := hba.size
          try simp only [World.size_alloc, World.size_setCell, World.size_drew] at hza
          (try (have : w.heap.size < wa.heap.size := (by omega)))
          (try (have : w.heap.size < wa.heap.size + 1 := (by omega)))
          (try (have : w.heap.size < wa.heap.size + 1 + 1 := (by omega)))
          (try (have : w.heap.size + 1 < wa.heap.size := (by omega)))
          (try (have : w.heap.size + 1 < wa.heap.size + 1 := (by omega)))
          (try (have : w.heap.size + 1 < wa.heap.size + 1 + 1 := (by omega)))
          (try (have : w.heap.size + 1 + 1 < wa.heap.size := (by omega)))
          (try (have : w.heap.size + 1 + 1 < wa.heap.size + 1 := (by omega)))
          (try (have : w.heap.size + 1 + 1 < wa.heap.size + 1 + 1 := (by omega)))
          (try (have : w.heap.size + 1 + 1 + 1 < wa.heap.size := (by omega)))
          (try (have : w.heap.size + 1 + 1 + 1 < wa.heap.size + 1 := (by omega)))
          (try (have : w.heap.size + 1 + 1 + 1 < wa.heap.size + 1 + 1 := (by omega)))
          (try (have : w1.heap.size < wa.heap.size := (by omega)))
          (try (have : w1.heap.size < wa.heap.size + 1 := (by omega)))
          (try (have : w1.heap.size < wa.heap.size + 1 + 1 := (by omega)))
          (try (have : w1.heap.size + 1 < wa.heap.size := (by omega)))
          (try (have : w1.heap.size + 1 < wa.heap.size + 1 := (by omega)))
          (try (have : w1.heap.size + 1 < wa.heap.size + 1 + 1 := (by omega)))
          (try (have : w1.heap.size + 1 + 1 < wa.heap.size := (by omega)))
          (try (have : w1.heap.size + 1 + 1 < wa.heap.size + 1 := (by omega)))
          (try (have : w1.heap.size + 1 + 1 < wa.heap.size + 1 + 1 := (by omega)))
          (try (have : w1.heap.size + 1 + 1 + 1 < wa.heap.size := (by omega)))
          (try (have : w1.heap.size + 1 + 1 + 1 < wa.heap.size + 1 := (by omega)))
          (try (have : w1.heap.size + 1 + 1 + 1 < wa.heap.size + 1 + 1 := (by omega)))
          (try (have : w8.heap.size < wa.heap.size := (by omega)))
          (try (have : w8.heap.size < wa.heap.size + 1 := (by omega)))
          (try (have : w8.heap.size < wa.heap.size + 1 + 1 := (by omega)))
          (try (have : w8.heap.size + 1 < wa.heap.size := (by omega)))
          (try (have : w8.heap.size + 1 < wa.heap.size + 1 := (by omega)))
          (try (have : w8.heap.size + 1 < wa.heap.size + 1 + 1 := (by omega)))
          (try (have : w8.heap.size + 1 + 1 < wa.heap.size := (by omega)))
          (try (have : w8.heap.size + 1 + 1 < wa.heap.size + 1 := (by omega)))
          (try (have : w8.heap.size + 1 + 1 < wa.heap.size + 1 + 1 := (by omega)))
          (try (have : w8.heap.size + 1 + 1 + 1 < wa.heap.size := (by omega)))
          (try (have : w8.heap.size + 1 + 1 + 1 < wa.heap.size + 1 := (by omega)))
          (try (have : w8.heap.size + 1 + 1 + 1 < wa.heap.size + 1 + 1 := (by omega)))
          (try (have : w9.heap.size < wa.heap.size := (by omega)))
          (try (have : w9.heap.size < wa.heap.size + 1 := (by omega)))
          (try (have : w9.heap.size < wa.heap.size + 1 + 1 := (by omega)))
          (try (have : w9.heap.size + 1 < wa.heap.size := (by omega)))
          (try (have : w9.heap.size + 1 < wa.heap.size + 1 := (by omega)))
          (try (have : w9.heap.size + 1 < wa.heap.size + 1 + 1 := (by omega)))
          (try (have : w9.heap.size + 1 + 1 < wa.heap.size := (by omega)))
          (try (have : w9.heap.size + 1 + 1 < wa.heap.size + 1 := (by omega)))
          (try (have : w9.heap.size + 1 + 1 < wa.heap.size + 1 + 1 := (by omega)))
          (try (have : w9.heap.size + 1 + 1 + 1 < wa.heap.size := (by omega)))
          (try (have : w9.heap.size + 1 + 1 + 1 < wa.heap.size + 1 := (by omega)))
          (try (have : w9.heap.size + 1 + 1 + 1 < wa.heap.size + 1 + 1 := (by omega)))
          (try (have : wv.heap.size < wa.heap.size := (by omega)))
          (try (have : wv.heap.size < wa.heap.size + 1 := (by omega)))
          (try (have : wv.heap.size < wa.heap.size + 1 + 1 := (by omega)))
          (try (have : wv.heap.size + 1 < wa.heap.size := (by omega)))
          (try (have : wv.heap.size + 1 < wa.heap.size + 1 := (by omega)))
          (try (have : wv.heap.size + 1 < wa.heap.size + 1 + 1 := (by omega)))
          (try (have : wv.heap.size + 1 + 1 < wa.heap.size := (by omega)))
          (try (have : wv.heap.size + 1 + 1 < wa.heap.size + 1 := (by omega)))
          (try (have : wv.heap.size + 1 + 1 < wa.heap.size + 1 + 1 := (by omega)))
          (try (have : wv.heap.size + 1 + 1 + 1 < wa.heap.size := (by omega)))
          (try (have : wv.heap.size + 1 + 1 + 1 < wa.heap.size + 1 := (by omega)))
          (try (have : wv.heap.size + 1 + 1 + 1 < wa.heap.size + 1 + 1 := (by omega)))
          (try (have : b9_9 < wa.heap.size := (by omega)))
          (try (have : b9_9 < wa.heap.size + 1 := (by omega)))
          (try (have : b9_9 < wa.heap.size + 1 + 1 := (by omega)))
          simp only [List.drop_succ_cons, List.drop_zero, List.drop_nil]
          go_wp2
          refine Free.wp_region 21 #[0, 1, 3, 7, 0, 16, 48, 112, 0, 256, 768, 1792, 4080, 0, 8192, 24576, 57344, 131056, 262128, 524287, 1048575] (by kernel_rfl) (by kernel_rfl) ?_
          simp only [List.take_succ_cons, List.take_zero]
          iterate 21
            refine Free.E.q (by rfl) ?_
            apply Exists.intro
            refine ⟨fun u w' hc hb => ?_, ?_⟩
            go_simp
            (try go_ints); (try simp only [Ob.ite_imx, Ob.ite_imn]); first | exact rfl | (go_simp; exact rfl) | ((go_at_call 35; with_reducible exact Free.Calls.grow (HM2.out _))) | ((go_at_call 36; with_reducible exact Free.Calls.grow (HF2.out _))) | (simp only [↓IntWalk.iteOmega]; (try go_simp); exact rfl)
            simp only [Act.put, List.setIfInBounds_toArray, List.set_cons_zero, List.set_cons_succ, List.nil_append, List.cons_append]
          refine Free.E.nil (fun u wb S hF => ?_)
          have hbb := hF.below
          clear hF
          have hcb := (Free.cells_of hbb).1
          have hfb := (Free.cells_of hbb).2
          have hzb := hbb.size
          try simp only [World.size_alloc, World.size_setCell, World.size_drew] at hzb
          (try (have : w.heap.size < wb.heap.size := (by omega)))
          (try (have : w.heap.size < wb.heap.size + 1 := (by omega)))
          (try (have : w.heap.size < wb.heap.size + 1 + 1 := (by omega)))
          (try (have : w.heap.size + 1 < wb.heap.size := (by omega)))
          (try (have : w.heap.size + 1 < wb.heap.size + 1 := (by omega)))
          (try (have : w.heap.size + 1 < wb.heap.size + 1 + 1 := (by omega)))
          (try (have : w.heap.size + 1 + 1 < wb.heap.size := (by omega)))
          (try (have : w.heap.size + 1 + 1 < wb.heap.size + 1 := (by omega)))
          (try (have : w.heap.size + 1 + 1 < wb.heap.size + 1 + 1 := (by omega)))
          (try (have : w.heap.size + 1 + 1 + 1 < wb.heap.size := (by omega)))
          (try (have : w.heap.size + 1 + 1 + 1 < wb.heap.size + 1 := (by omega)))
          (try (have : w.heap.size + 1 + 1 + 1 < wb.heap.size + 1 + 1 := (by omega)))
          (try (have : w1.heap.size < wb.heap.size := (by omega)))
          (try (have : w1.heap.size < wb.heap.size + 1 := (by omega)))
          (try (have : w1.heap.size < wb.heap.size + 1 + 1 := (by omega)))
          (try (have : w1.heap.size + 1 < wb.heap.size := (by omega)))
          (try (have : w1.heap.size + 1 < wb.heap.size + 1 := (by omega)))
          (try (have : w1.heap.size + 1 < wb.heap.size + 1 + 1 := (by omega)))
          (try (have : w1.heap.size + 1 + 1 < wb.heap.size := (by omega)))
          (try (have : w1.heap.size + 1 + 1 < wb.heap.size + 1 := (by omega)))
          (try (have : w1.heap.size + 1 + 1 < wb.heap.size + 1 + 1 := (by omega)))
          (try (have : w1.heap.size + 1 + 1 + 1 < wb.heap.size := (by omega)))
          (try (have : w1.heap.size + 1 + 1 + 1 < wb.heap.size + 1 := (by omega)))
          (try (have : w1.heap.size + 1 + 1 + 1 < wb.heap.size + 1 + 1 := (by omega)))
          (try (have : w8.heap.size < wb.heap.size := (by omega)))
          (try (have : w8.heap.size < wb.heap.size + 1 := (by omega)))
          (try (have : w8.heap.size < wb.heap.size + 1 + 1 := (by omega)))
          (try (have : w8.heap.size + 1 < wb.heap.size := (by omega)))
          (try (have : w8.heap.size + 1 < wb.heap.size + 1 := (by omega)))
          (try (have : w8.heap.size + 1 < wb.heap.size + 1 + 1 := (by omega)))
          (try (have : w8.heap.size + 1 + 1 < wb.heap.size := (by omega)))
          (try (have : w8.heap.size + 1 + 1 < wb.heap.size + 1 := (by omega)))
          (try (have : w8.heap.size + 1 + 1 < wb.heap.size + 1 + 1 := (by omega)))
          (try (have : w8.heap.size + 1 + 1 + 1 < wb.heap.size := (by omega)))
          (try (have : w8.heap.size + 1 + 1 + 1 < wb.heap.size + 1 := (by omega)))
          (try (have : w8.heap.size + 1 + 1 + 1 < wb.heap.size + 1 + 1 := (by omega)))
          (try (have : w9.heap.size < wb.heap.size := (by omega)))
          (try (have : w9.heap.size < wb.heap.size + 1 := (by omega)))
          (try (have : w9.heap.size < wb.heap.size + 1 + 1 := (by omega)))
          (try (have : w9.heap.size + 1 < wb.heap.size := (by omega)))
          (try (have : w9.heap.size + 1 < wb.heap.size + 1 := (by omega)))
          (try (have : w9.heap.size + 1 < wb.heap.size + 1 + 1 := (by omega)))
          (try (have : w9.heap.size + 1 + 1 < wb.heap.size := (by omega)))
          (try (have : w9.heap.size + 1 + 1 < wb.heap.size + 1 := (by omega)))
          (try (have : w9.heap.size + 1 + 1 < wb.heap.size + 1 + 1 := (by omega)))
          (try (have : w9.heap.size + 1 + 1 + 1 < wb.heap.size := (by omega)))
          (try (have : w9.heap.size + 1 + 1 + 1 < wb.heap.size + 1 := (by omega)))
          (try (have : w9.heap.size + 1 + 1 + 1 < wb.heap.size + 1 + 1 := (by omega)))
          (try (have : wv.heap.size < wb.heap.size := (by omega)))
          (try (have : wv.heap.size < wb.heap.size + 1 := (by omega)))
          (try (have : wv.heap.size < wb.heap.size + 1 + 1 := (by omega)))
          (try (have : wv.heap.size + 1 < wb.heap.size := (by omega)))
          (try (have : wv.heap.size + 1 < wb.heap.size + 1 := (by omega)))
          (try (have : wv.heap.size + 1 < wb.heap.size + 1 + 1 := (by omega)))
          (try (have : wv.heap.size + 1 + 1 < wb.heap.size := (by omega)))
          (try (have : wv.heap.size + 1 + 1 < wb.heap.size + 1 := (by omega)))
          (try (have : wv.heap.size + 1 + 1 < wb.heap.size + 1 + 1 := (by omega)))
          (try (have : wv.heap.size + 1 + 1 + 1 < wb.heap.size := (by omega)))
          (try (have : wv.heap.size + 1 + 1 + 1 < wb.heap.size + 1 := (by omega)))
          (try (have : wv.heap.size + 1 + 1 + 1 < wb.heap.size + 1 + 1 := (by omega)))
          (try (have : wa.heap.size < wb.heap.size := (by omega)))
          (try (have : wa.heap.size < wb.heap.size + 1 := (by omega)))
          (try (have : wa.heap.size < wb.heap.size + 1 + 1 := (by omega)))
          (try (have : wa.heap.size + 1 < wb.heap.size := (by omega)))
          (try (have : wa.heap.size + 1 < wb.heap.size + 1 := (by omega)))
          (try (have : wa.heap.size + 1 < wb.heap.size + 1 + 1 := (by omega)))
          (try (have : wa.heap.size + 1 + 1 < wb.heap.size := (by omega)))
          (try (have : wa.heap.size + 1 + 1 < wb.heap.size + 1 := (by omega)))
          (try (have : wa.heap.size + 1 + 1 < wb.heap.size + 1 + 1 := (by omega)))
          (try (have : wa.heap.size + 1 + 1 + 1 < wb.heap.size := (by omega)))
          (try (have : wa.heap.size + 1 + 1 + 1 < wb.heap.size + 1 := (by omega)))
          (try (have : wa.heap.size + 1 + 1 + 1 < wb.heap.size + 1 + 1 := (by omega)))
          (try (have : b9_9 < wb.heap.size := (by omega)))
          (try (have : b9_9 < wb.heap.size + 1 := (by omega)))
          (try (have : b9_9 < wb.heap.size + 1 + 1 := (by omega)))
          simp only [List.drop_succ_cons, List.drop_zero, List.drop_nil]
          go_wp2
          go_roundw
          case measure => simp [intOf]
          case rel => exact ⟨3, by omega, rfl, by simp only [ps_0, ps_1, ps_2, ps_3, Int.zero_add], Lib.hid (by repeat' first | with_reducible exact Below.refl _ _ | with_reducible assumption | with_reducible refine Free.Grow.alloc ?_ _ | with_reducible refine Free.Grow.setCell ?_ (by first | omega | (simp; done) | (simp; omega)) _ | with_reducible refine Free.Grow.drew ?_ | with_reducible refine Free.Grow.trans ?_ (by assumption))⟩
        · by_cases cA : r2 < 0 ∨ ((l0 + f0 - x) * (l0 + f0 - x) + (l1 + f1 - y) * (l1 + f1 - y) + (l2 + f2 - z) * (l2 + f2 - z)) < r2
          · have HI := Lib.hid (HY.out (by rw [HSV.out]; exact cA))
            rw [HSV.out] at HI
            have cA' : r2 < 0 ∨ (¬ r2 < 0 ∧ ((l0 + f0 - x) * (l0 + f0 - x) + (l1 + f1 - y) * (l1 + f1 - y) + (l2 + f2 - z) * (l2 + f2 - z)) < r2) := by
              rcases cA with h | h
              · exact .inl h
              · by_cases h' : r2 < 0
                · exact .inl h'
                · exact .inr ⟨h', h⟩
            clear cA
            rcases cA' with cB | ⟨cB, cC⟩
            all_goals
              go_wp2
              go_roundw
              case rel => exact ⟨k + 1, by omega, by go_num, by simp only [HI.out], by simp only [HI.out], Lib.hid (Below.trans hB9 (hbv.mono (by omega))), Lib.hid (Free.blk_below K3'.out hbv), Lib.hid (Free.blk_below k4'.out hbv), Lib.hid (Free.blk_below K5'.out hbv), Lib.hid (Free.blk_below K7'.out hbv)⟩
              case measure => simp [intOf]; omega
          · have HI := Lib.hid (HX.out (by rw [HSV.out]; exact cA))
            have cB : ¬ r2 < 0 := fun h => cA (.inl h)
            have cC : ¬ ((l0 + f0 - x) * (l0 + f0 - x) + (l1 + f1 - y) * (l1 + f1 - y) + (l2 + f2 - z) * (l2 + f2 - z)) < r2 := fun h => cA (.inr h)
            clear cA
            go_wp2
            go_roundw
            case rel => exact ⟨k + 1, by omega, by go_num, by simp only [HI.out], by simp only [HI.out], Lib.hid (Below.trans hB9 (hbv.mono (by omega))), Lib.hid (Free.blk_below K3'.out hbv), Lib.hid (Free.blk_below k4'.out hbv), Lib.hid (Free.blk_below K5'.out hbv), Lib.hid (Free.blk_below K7'.out hbv)⟩
            case measure => simp [intOf]; omega
    · obtain rfl : k = N := by omega
      have ht : ¬ frstT l + k ≤ lastT l := by have := HNN.out; omega
      go_wp2_with (first | (go_at_call 34; refine (HL.out _ (HM.out.below (B := w.heap.size) (by repeat' first | with_reducible exact Below.refl _ _ | with_reducible assumption | with_reducible refine Free.Grow.alloc ?_ _ | with_reducible refine Free.Grow.setCell ?_ (by first | omega | (simp; done) | (simp; omega)) _ | with_reducible refine Free.Grow.drew ?_ | with_reducible refine Free.Grow.trans ?_ (by assumption)) hbw) (by first | omega | (simp; done) | (simp; omega))).mono ?_; rintro e w6 ⟨rfl, hb6⟩; have hc6 := (Free.cells_of hb6).1; have hf6 := (Free.cells_of hb6).2; have hz6 := hb6.size; (try simp only [World.size_alloc, World.size_setCell, World.size_drew] at hz6); (try (have : w.heap.size < w6.heap.size := (by omega))); (try (have : w.heap.size < w6.heap.size + 1 := (by omega))); (try (have : w.heap.size < w6.heap.size + 1 + 1 := (by omega))); (try (have : w.heap.size + 1 < w6.heap.size := (by omega))); (try (have : w.heap.size + 1 < w6.heap.size + 1 := (by omega))); (try (have : w.heap.size + 1 < w6.heap.size + 1 + 1 := (by omega))); (try (have : w.heap.size + 1 + 1 < w6.heap.size := (by omega))); (try (have : w.heap.size + 1 + 1 < w6.heap.size + 1 := (by omega))); (try (have : w.heap.size + 1 + 1 < w6.heap.size + 1 + 1 := (by omega))); (try (have : w.heap.size + 1 + 1 + 1 < w6.heap.size := (by omega))); (try (have : w.heap.size + 1 + 1 + 1 < w6.heap.size + 1 := (by omega))); (try (have : w.heap.size + 1 + 1 + 1 < w6.heap.size + 1 + 1 := (by omega))); (try (have : w1.heap.size < w6.heap.size := (by omega))); (try (have : w1.heap.size < w6.heap.size + 1 := (by omega))); (try (have : w1.heap.size < w6.heap.size + 1 + 1 := (by omega))); (try (have : w1.heap.size + 1 < w6.heap.size := (by omega))); (try (have : w1.heap.size + 1 < w6.heap.size + 1 := (by omega))); (try (have : w1.heap.size + 1 < w6.heap.size + 1 + 1 := (by omega))); (try (have : w1.heap.size + 1 + 1 < w6.heap.size := (by omega))); (try (have : w1.heap.size + 1 + 1 < w6.heap.size + 1 := (by omega))); (try (have : w1.heap.size + 1 + 1 < w6.heap.size + 1 + 1 := (by omega))); (try (have : w1.heap.size + 1 + 1 + 1 < w6.heap.size := (by omega))); (try (have : w1.heap.size + 1 + 1 + 1 < w6.heap.size + 1 := (by omega))); (try (have : w1.heap.size + 1 + 1 + 1 < w6.heap.size + 1 + 1 := (by omega))); (try (have : wr.heap.size < w6.heap.size := (by omega))); (try (have : wr.heap.size < w6.heap.size + 1 := (by omega))); (try (have : wr.heap.size < w6.heap.size + 1 + 1 := (by omega))); (try (have : wr.heap.size + 1 < w6.heap.size := (by omega))); (try (have : wr.heap.size + 1 < w6.heap.size + 1 := (by omega))); (try (have : wr.heap.size + 1 < w6.heap.size + 1 + 1 := (by omega))); (try (have : wr.heap.size + 1 + 1 < w6.heap.size := (by omega))); (try (have : wr.heap.size + 1 + 1 < w6.heap.size + 1 := (by omega))); (try (have : wr.heap.size + 1 + 1 < w6.heap.size + 1 + 1 := (by omega))); (try (have : wr.heap.size + 1 + 1 + 1 < w6.heap.size := (by omega))); (try (have : wr.heap.size + 1 + 1 + 1 < w6.heap.size + 1 := (by omega))); (try (have : wr.heap.size + 1 + 1 + 1 < w6.heap.size + 1 + 1 := (by omega))); (try (have : b2 < w6.heap.size := (by omega))); (try (have : b2 < w6.heap.size + 1 := (by omega))); (try (have : b2 < w6.heap.size + 1 + 1 := (by omega)))) | (go_at_call 21; refine (HWL.out _).mono ?_; rintro e w' ⟨rfl, rfl⟩))
      first | (go_ret2; exact HR.out _ (by repeat' first | with_reducible exact Below.refl _ _ | with_reducible assumption | with_reducible refine Free.Grow.alloc ?_ _ | with_reducible refine Free.Grow.setCell ?_ (by first | omega | (simp; done) | (simp; omega)) _ | with_reducible refine Free.Grow.drew ?_ | with_reducible refine Free.Grow.trans ?_ (by assumption))) | exact HR.out _ (by repeat' first | with_reducible exact Below.refl _ _ | with_reducible assumption | with_reducible refine Free.Grow.alloc ?_ _ | with_reducible refine Free.Grow.setCell ?_ (by first | omega | (simp; done) | (simp; omega)) _ | with_reducible refine Free.Grow.drew ?_ | with_reducible refine Free.Grow.trans ?_ (by assumption))
end Go.Proofs.Ytaoennekamlfeaa.OrbitSurely
