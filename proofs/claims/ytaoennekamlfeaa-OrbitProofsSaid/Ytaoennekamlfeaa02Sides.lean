/- OrbitSides: SideOf returns the side of a place as the reference does, or the errors. -/
import Derived.Test.Ytaoennekamlfeaa02G
import Derived.Test.Ytaoennekamlfeaa02E
import Derived.Test.Ytaoennekamlfeaa02CopyR
import Derived.Test.Ytaoennekamlfeaa02Claim
set_option linter.unusedSimpArgs false
set_option linter.unusedVariables false
namespace Go.Proofs.Ytaoennekamlfeaa.OrbitSides
open Go.ChangeShapes Go.WideShapes Go.ChangeAt Go.RowKit Go.Ob Go.Proofs.Ytaoennekamlfeaa

theorem placeE_or (x y z : Int) : placeE x y z = 0 ∨ placeE x y z = 2 := by
  unfold placeE firstE firstE firstE firstE
  rcases bnd_or x (-100000000) 100000000 with a | a <;> rcases bnd_or y (-100000000) 100000000 with b | b <;> rcases bnd_or z (-100000000) 100000000 with c | c <;> simp [a, b, c]

set_option maxRecDepth 100000 in
set_option maxHeartbeats 2000000 in
theorem walk_few_no (nm : ByteArray) (bd k x y z : Int) (a : Option Addr) (n cap : Nat) (w : World) (hn : (n : Int) ≤ 9223372036854775807) (hnm : (nm.size : Int) ≤ 9223372036854775807) (hf : fewB nm.size n = false) :
    Calls Try.prog 9 #[obV nm bd a n cap, .int .i64 k, v3 x y z] w fun e w' => e = .returned (.bool true) ∧ Below w.heap.size w w' := by
  have HF := Lib.hid (fun w' => Few_any nm bd a n cap w' hn hnm)
  rw [hf] at HF
  clear hf
  refine Calls.made fun R HR => ?_
  go_enter Try.func9, Try.ntmps9
  go_wp2_with (first | (go_at_call 15; refine (awake_any _).mono ?_; rintro e w1 ⟨rfl, hb1⟩; have hc1 := (Free.cells_of hb1).1; have hf1 := (Free.cells_of hb1).2; have hz1 := hb1.size; (try simp only [World.size_alloc, World.size_setCell, World.size_drew] at hz1); (try (have : w.heap.size < w1.heap.size := (by omega))); (try (have : w.heap.size < w1.heap.size + 1 := (by omega))); (try (have : w.heap.size < w1.heap.size + 1 + 1 := (by omega))); (try (have : w.heap.size + 1 < w1.heap.size := (by omega))); (try (have : w.heap.size + 1 < w1.heap.size + 1 := (by omega))); (try (have : w.heap.size + 1 < w1.heap.size + 1 + 1 := (by omega))); (try (have : w.heap.size + 1 + 1 < w1.heap.size := (by omega))); (try (have : w.heap.size + 1 + 1 < w1.heap.size + 1 := (by omega))); (try (have : w.heap.size + 1 + 1 < w1.heap.size + 1 + 1 := (by omega))); (try (have : w.heap.size + 1 + 1 + 1 < w1.heap.size := (by omega))); (try (have : w.heap.size + 1 + 1 + 1 < w1.heap.size + 1 := (by omega))); (try (have : w.heap.size + 1 + 1 + 1 < w1.heap.size + 1 + 1 := (by omega)))) | (go_at_call 25; refine (HF.out _).mono ?_; rintro e w2 ⟨rfl, hb2⟩; have hc2 := (Free.cells_of hb2).1; have hf2 := (Free.cells_of hb2).2; have hz2 := hb2.size; (try simp only [World.size_alloc, World.size_setCell, World.size_drew] at hz2); (try (have : w.heap.size < w2.heap.size := (by omega))); (try (have : w.heap.size < w2.heap.size + 1 := (by omega))); (try (have : w.heap.size < w2.heap.size + 1 + 1 := (by omega))); (try (have : w.heap.size + 1 < w2.heap.size := (by omega))); (try (have : w.heap.size + 1 < w2.heap.size + 1 := (by omega))); (try (have : w.heap.size + 1 < w2.heap.size + 1 + 1 := (by omega))); (try (have : w.heap.size + 1 + 1 < w2.heap.size := (by omega))); (try (have : w.heap.size + 1 + 1 < w2.heap.size + 1 := (by omega))); (try (have : w.heap.size + 1 + 1 < w2.heap.size + 1 + 1 := (by omega))); (try (have : w.heap.size + 1 + 1 + 1 < w2.heap.size := (by omega))); (try (have : w.heap.size + 1 + 1 + 1 < w2.heap.size + 1 := (by omega))); (try (have : w.heap.size + 1 + 1 + 1 < w2.heap.size + 1 + 1 := (by omega))); (try (have : w1.heap.size < w2.heap.size := (by omega))); (try (have : w1.heap.size < w2.heap.size + 1 := (by omega))); (try (have : w1.heap.size < w2.heap.size + 1 + 1 := (by omega))); (try (have : w1.heap.size + 1 < w2.heap.size := (by omega))); (try (have : w1.heap.size + 1 < w2.heap.size + 1 := (by omega))); (try (have : w1.heap.size + 1 < w2.heap.size + 1 + 1 := (by omega))); (try (have : w1.heap.size + 1 + 1 < w2.heap.size := (by omega))); (try (have : w1.heap.size + 1 + 1 < w2.heap.size + 1 := (by omega))); (try (have : w1.heap.size + 1 + 1 < w2.heap.size + 1 + 1 := (by omega))); (try (have : w1.heap.size + 1 + 1 + 1 < w2.heap.size := (by omega))); (try (have : w1.heap.size + 1 + 1 + 1 < w2.heap.size + 1 := (by omega))); (try (have : w1.heap.size + 1 + 1 + 1 < w2.heap.size + 1 + 1 := (by omega)))))
  first | (go_ret; exact HR.out _ (by repeat' first | with_reducible exact Below.refl _ _ | with_reducible assumption | with_reducible refine Free.Grow.alloc ?_ _ | with_reducible refine Free.Grow.setCell ?_ (by first | omega | (simp; done) | (simp; omega)) _ | with_reducible refine Free.Grow.drew ?_ | with_reducible refine Free.Grow.trans ?_ (by assumption))) | exact HR.out _ (by repeat' first | with_reducible exact Below.refl _ _ | with_reducible assumption | with_reducible refine Free.Grow.alloc ?_ _ | with_reducible refine Free.Grow.setCell ?_ (by first | omega | (simp; done) | (simp; omega)) _ | with_reducible refine Free.Grow.drew ?_ | with_reducible refine Free.Grow.trans ?_ (by assumption))

set_option maxRecDepth 100000 in
set_option maxHeartbeats 4000000 in
theorem walk_err (nm : ByteArray) (bd k x y z : Int) (a : Option Addr) (cap : Nat) (l : List St) (w : World) (hO : OrbIn w nm a cap l) (hf : fewB nm.size l.length = true) (h : (orbE nm.data.toList bd l).2 ≠ 0) :
    Calls Try.prog 9 #[obV nm bd a l.length cap, .int .i64 k, v3 x y z] w fun e w' => e = .returned (.bool true) ∧ Below w.heap.size w w' := by
  have HF := Lib.hid (fun w' => Few_any nm bd a l.length cap w' hO.len (by have := hO.nm; omega))
  rw [hf] at HF
  have h40 := (fewB_spec hf).2
  have HC := Lib.hid (fun w' w0 S (h : OrbIn w' nm a cap l) (hs : Free.Safe w0 w' S) => Copy_rel (bd := bd) h (by omega) hs)
  have HE : sideE nm.data.toList bd l k x y z = (orbE nm.data.toList bd l).2 := by unfold sideE; rw [if_pos h]
  have HSO : sideOr nm.data.toList bd l k x y z = 0 := by unfold sideOr; rw [HE, if_neg h]
  have HSi := Lib.hid (fun w' (g c : Nat) (h : OrbIn w' nm (some ⟨g, 0, none⟩) c l) => SideOf_any nm bd k x y z (some ⟨g, 0, none⟩) c l w' h)
  rw [HE, HSO] at HSi
  have HEr := Lib.hid (fun w' (h : OrbIn w' nm a cap l) => Err_any nm bd a cap l w' h)
  have hb0 : ((orbE nm.data.toList bd l).2 == 0) = false := by simpa using h
  have hb1 : ((orbE nm.data.toList bd l).2 != 0) = true := by simpa using h
  have HO := Lib.hid hO
  clear h hO hf HE HSO
  generalize (orbE nm.data.toList bd l).2 = c at *
  refine Calls.made fun R HR => ?_
  go_enter Try.func9, Try.ntmps9
  go_wp2_with (first | (go_at_call 15; refine (awake_any _).mono ?_; rintro e w1 ⟨rfl, hb1⟩; have hc1 := (Free.cells_of hb1).1; have hf1 := (Free.cells_of hb1).2; have hz1 := hb1.size; (try simp only [World.size_alloc, World.size_setCell, World.size_drew] at hz1); (try (have : w.heap.size < w1.heap.size := (by omega))); (try (have : w.heap.size < w1.heap.size + 1 := (by omega))); (try (have : w.heap.size < w1.heap.size + 1 + 1 := (by omega))); (try (have : w.heap.size + 1 < w1.heap.size := (by omega))); (try (have : w.heap.size + 1 < w1.heap.size + 1 := (by omega))); (try (have : w.heap.size + 1 < w1.heap.size + 1 + 1 := (by omega))); (try (have : w.heap.size + 1 + 1 < w1.heap.size := (by omega))); (try (have : w.heap.size + 1 + 1 < w1.heap.size + 1 := (by omega))); (try (have : w.heap.size + 1 + 1 < w1.heap.size + 1 + 1 := (by omega))); (try (have : w.heap.size + 1 + 1 + 1 < w1.heap.size := (by omega))); (try (have : w.heap.size + 1 + 1 + 1 < w1.heap.size + 1 := (by omega))); (try (have : w.heap.size + 1 + 1 + 1 < w1.heap.size + 1 + 1 := (by omega)))) | (go_at_call 25; refine (HF.out _).mono ?_; rintro e w2 ⟨rfl, hb2⟩; have hc2 := (Free.cells_of hb2).1; have hf2 := (Free.cells_of hb2).2; have hz2 := hb2.size; (try simp only [World.size_alloc, World.size_setCell, World.size_drew] at hz2); (try (have : w.heap.size < w2.heap.size := (by omega))); (try (have : w.heap.size < w2.heap.size + 1 := (by omega))); (try (have : w.heap.size < w2.heap.size + 1 + 1 := (by omega))); (try (have : w.heap.size + 1 < w2.heap.size := (by omega))); (try (have : w.heap.size + 1 < w2.heap.size + 1 := (by omega))); (try (have : w.heap.size + 1 < w2.heap.size + 1 + 1 := (by omega))); (try (have : w.heap.size + 1 + 1 < w2.heap.size := (by omega))); (try (have : w.heap.size + 1 + 1 < w2.heap.size + 1 := (by omega))); (try (have : w.heap.size + 1 + 1 < w2.heap.size + 1 + 1 := (by omega))); (try (have : w.heap.size + 1 + 1 + 1 < w2.heap.size := (by omega))); (try (have : w.heap.size + 1 + 1 + 1 < w2.heap.size + 1 := (by omega))); (try (have : w.heap.size + 1 + 1 + 1 < w2.heap.size + 1 + 1 := (by omega))); (try (have : w1.heap.size < w2.heap.size := (by omega))); (try (have : w1.heap.size < w2.heap.size + 1 := (by omega))); (try (have : w1.heap.size < w2.heap.size + 1 + 1 := (by omega))); (try (have : w1.heap.size + 1 < w2.heap.size := (by omega))); (try (have : w1.heap.size + 1 < w2.heap.size + 1 := (by omega))); (try (have : w1.heap.size + 1 < w2.heap.size + 1 + 1 := (by omega))); (try (have : w1.heap.size + 1 + 1 < w2.heap.size := (by omega))); (try (have : w1.heap.size + 1 + 1 < w2.heap.size + 1 := (by omega))); (try (have : w1.heap.size + 1 + 1 < w2.heap.size + 1 + 1 := (by omega))); (try (have : w1.heap.size + 1 + 1 + 1 < w2.heap.size := (by omega))); (try (have : w1.heap.size + 1 + 1 + 1 < w2.heap.size + 1 := (by omega))); (try (have : w1.heap.size + 1 + 1 + 1 < w2.heap.size + 1 + 1 := (by omega)))))
  refine Free.wp_region 10 #[0, 1, 0, 0, 15, 31, 63, 63, 127, 511] (by kernel_rfl) (by kernel_rfl) ?_
  simp only [List.take_succ_cons, List.take_zero]
  iterate 1
    refine Free.E.q (by rfl) ?_
    apply Exists.intro
    refine ⟨fun u w' hc hb => ?_, ?_⟩
    go_simp
    (try go_ints); (try simp only [Ob.ite_imx, Ob.ite_imn]); first | exact rfl | (go_simp; exact rfl) | (simp only [↓IntWalk.iteOmega]; (try go_simp); exact rfl)
    simp only [Act.put, List.setIfInBounds_toArray, List.set_cons_zero, List.set_cons_succ, List.nil_append, List.cons_append]
  refine Free.E.r (F := CopyF nm bd l) (by rfl) (CopyF.mono nm bd l) (fun u w' S hc hb hs => ?_) ?_
  · go_simp
    refine Free.relUpon_enter ?_
    exact HC.out _ _ _ (HO.out.below (by repeat' first | with_reducible exact Below.refl _ _ | with_reducible assumption | with_reducible refine Free.Grow.alloc ?_ _ | with_reducible refine Free.Grow.setCell ?_ (by first | omega | (simp; done) | (simp; omega)) _ | with_reducible refine Free.Grow.drew ?_ | with_reducible refine Free.Grow.trans ?_ (by assumption))) hs
  simp only [Act.put, List.setIfInBounds_toArray, List.set_cons_zero, List.set_cons_succ, List.nil_append, List.cons_append]
  iterate 2
    refine Free.E.q (by rfl) ?_
    apply Exists.intro
    refine ⟨fun u w' hc hb => ?_, ?_⟩
    go_simp
    (try go_ints); (try simp only [Ob.ite_imx, Ob.ite_imn]); first | exact rfl | (go_simp; exact rfl) | (simp only [↓IntWalk.iteOmega]; (try go_simp); exact rfl)
    simp only [Act.put, List.setIfInBounds_toArray, List.set_cons_zero, List.set_cons_succ, List.nil_append, List.cons_append]
  refine Free.E.qf (by rfl) ?_
  apply Exists.intro
  refine ⟨fun u w' S hc hb hF => ?_, ?_⟩
  · obtain ⟨gx, capx, hux, hgx, -, hOx⟩ := hF 1 _ rfl (by rfl)
    go_simp
    try simp only [hux]
    (go_at_call 43; exact HSi.out _ _ _ hOx)
  simp only [Act.put, List.setIfInBounds_toArray, List.set_cons_zero, List.set_cons_succ, List.nil_append, List.cons_append]
  iterate 5
    refine Free.E.q (by rfl) ?_
    apply Exists.intro
    refine ⟨fun u w' hc hb => ?_, ?_⟩
    go_simp
    (try go_ints); (try simp only [Ob.ite_imx, Ob.ite_imn]); first | exact rfl | (go_simp; exact rfl) | (simp only [↓IntWalk.iteOmega]; (try go_simp); exact rfl)
    simp only [Act.put, List.setIfInBounds_toArray, List.set_cons_zero, List.set_cons_succ, List.nil_append, List.cons_append]
  refine Free.E.nil (fun u w3 S hF => ?_)
  have hb3 := hF.below
  have hm3_1 := hF.facts 1 _ rfl
  clear hF
  have hc3 := (Free.cells_of hb3).1
  have hf3 := (Free.cells_of hb3).2
  have hz3 := hb3.size
  obtain ⟨g3_1, cap3_1, hu3_1, hg3_1, -, hO3_1⟩ := hm3_1
  simp only [hu3_1]
  have HO3_1 := Lib.hid hO3_1
  clear hu3_1 hO3_1
  try simp only [World.size_alloc, World.size_setCell, World.size_drew] at hz3
  (try (have : w.heap.size < w3.heap.size := (by omega)))
  (try (have : w.heap.size < w3.heap.size + 1 := (by omega)))
  (try (have : w.heap.size < w3.heap.size + 1 + 1 := (by omega)))
  (try (have : w.heap.size + 1 < w3.heap.size := (by omega)))
  (try (have : w.heap.size + 1 < w3.heap.size + 1 := (by omega)))
  (try (have : w.heap.size + 1 < w3.heap.size + 1 + 1 := (by omega)))
  (try (have : w.heap.size + 1 + 1 < w3.heap.size := (by omega)))
  (try (have : w.heap.size + 1 + 1 < w3.heap.size + 1 := (by omega)))
  (try (have : w.heap.size + 1 + 1 < w3.heap.size + 1 + 1 := (by omega)))
  (try (have : w.heap.size + 1 + 1 + 1 < w3.heap.size := (by omega)))
  (try (have : w.heap.size + 1 + 1 + 1 < w3.heap.size + 1 := (by omega)))
  (try (have : w.heap.size + 1 + 1 + 1 < w3.heap.size + 1 + 1 := (by omega)))
  (try (have : w1.heap.size < w3.heap.size := (by omega)))
  (try (have : w1.heap.size < w3.heap.size + 1 := (by omega)))
  (try (have : w1.heap.size < w3.heap.size + 1 + 1 := (by omega)))
  (try (have : w1.heap.size + 1 < w3.heap.size := (by omega)))
  (try (have : w1.heap.size + 1 < w3.heap.size + 1 := (by omega)))
  (try (have : w1.heap.size + 1 < w3.heap.size + 1 + 1 := (by omega)))
  (try (have : w1.heap.size + 1 + 1 < w3.heap.size := (by omega)))
  (try (have : w1.heap.size + 1 + 1 < w3.heap.size + 1 := (by omega)))
  (try (have : w1.heap.size + 1 + 1 < w3.heap.size + 1 + 1 := (by omega)))
  (try (have : w1.heap.size + 1 + 1 + 1 < w3.heap.size := (by omega)))
  (try (have : w1.heap.size + 1 + 1 + 1 < w3.heap.size + 1 := (by omega)))
  (try (have : w1.heap.size + 1 + 1 + 1 < w3.heap.size + 1 + 1 := (by omega)))
  (try (have : w2.heap.size < w3.heap.size := (by omega)))
  (try (have : w2.heap.size < w3.heap.size + 1 := (by omega)))
  (try (have : w2.heap.size < w3.heap.size + 1 + 1 := (by omega)))
  (try (have : w2.heap.size + 1 < w3.heap.size := (by omega)))
  (try (have : w2.heap.size + 1 < w3.heap.size + 1 := (by omega)))
  (try (have : w2.heap.size + 1 < w3.heap.size + 1 + 1 := (by omega)))
  (try (have : w2.heap.size + 1 + 1 < w3.heap.size := (by omega)))
  (try (have : w2.heap.size + 1 + 1 < w3.heap.size + 1 := (by omega)))
  (try (have : w2.heap.size + 1 + 1 < w3.heap.size + 1 + 1 := (by omega)))
  (try (have : w2.heap.size + 1 + 1 + 1 < w3.heap.size := (by omega)))
  (try (have : w2.heap.size + 1 + 1 + 1 < w3.heap.size + 1 := (by omega)))
  (try (have : w2.heap.size + 1 + 1 + 1 < w3.heap.size + 1 + 1 := (by omega)))
  simp only [List.drop_succ_cons, List.drop_zero, List.drop_nil]
  go_wp2_with fail
  refine (HEr.out _ (HO.out.below (by repeat' first | with_reducible exact Below.refl _ _ | with_reducible assumption | with_reducible refine Free.Grow.alloc ?_ _ | with_reducible refine Free.Grow.setCell ?_ (by first | omega | (simp; done) | (simp; omega)) _ | with_reducible refine Free.Grow.drew ?_ | with_reducible refine Free.Grow.trans ?_ (by assumption)))).mono ?_
  rintro e w5 ⟨rfl, hb5⟩
  have hc5 := (Free.cells_of hb5).1; have hf5 := (Free.cells_of hb5).2; have hz5 := hb5.size; (try simp only [World.size_alloc, World.size_setCell, World.size_drew] at hz5)
  (try (have : w.heap.size < w5.heap.size := (by omega))); (try (have : w.heap.size < w5.heap.size + 1 := (by omega))); (try (have : w.heap.size < w5.heap.size + 1 + 1 := (by omega))); (try (have : w.heap.size + 1 < w5.heap.size := (by omega))); (try (have : w.heap.size + 1 < w5.heap.size + 1 := (by omega))); (try (have : w.heap.size + 1 < w5.heap.size + 1 + 1 := (by omega))); (try (have : w.heap.size + 1 + 1 < w5.heap.size := (by omega))); (try (have : w.heap.size + 1 + 1 < w5.heap.size + 1 := (by omega))); (try (have : w.heap.size + 1 + 1 < w5.heap.size + 1 + 1 := (by omega))); (try (have : w.heap.size + 1 + 1 + 1 < w5.heap.size := (by omega))); (try (have : w.heap.size + 1 + 1 + 1 < w5.heap.size + 1 := (by omega))); (try (have : w.heap.size + 1 + 1 + 1 < w5.heap.size + 1 + 1 := (by omega)))
  go_wp2
  first | (go_ret; exact HR.out _ (by repeat' first | with_reducible exact Below.refl _ _ | with_reducible assumption | with_reducible refine Free.Grow.alloc ?_ _ | with_reducible refine Free.Grow.setCell ?_ (by first | omega | (simp; done) | (simp; omega)) _ | with_reducible refine Free.Grow.drew ?_ | with_reducible refine Free.Grow.trans ?_ (by assumption))) | exact HR.out _ (by repeat' first | with_reducible exact Below.refl _ _ | with_reducible assumption | with_reducible refine Free.Grow.alloc ?_ _ | with_reducible refine Free.Grow.setCell ?_ (by first | omega | (simp; done) | (simp; omega)) _ | with_reducible refine Free.Grow.drew ?_ | with_reducible refine Free.Grow.trans ?_ (by assumption))

set_option maxRecDepth 100000 in
set_option maxHeartbeats 4000000 in
theorem walk_arc (nm : ByteArray) (bd k x y z : Int) (a : Option Addr) (cap : Nat) (l : List St) (w : World) (hO : OrbIn w nm a cap l) (hf : fewB nm.size l.length = true) (h : (orbE nm.data.toList bd l).2 = 0) (ha : arcB l k = false) :
    Calls Try.prog 9 #[obV nm bd a l.length cap, .int .i64 k, v3 x y z] w fun e w' => e = .returned (.bool true) ∧ Below w.heap.size w w' := by
  have HF := Lib.hid (fun w' => Few_any nm bd a l.length cap w' hO.len (by have := hO.nm; omega))
  rw [hf] at HF
  have h40 := (fewB_spec hf).2
  have hn2 := (orbE_right h).1.n2
  have HC := Lib.hid (fun w' w0 S (h : OrbIn w' nm a cap l) (hs : Free.Safe w0 w' S) => Copy_rel (bd := bd) h (by omega) hs)
  have HE : sideE nm.data.toList bd l k x y z = 6 := by unfold sideE arcE; rw [if_neg (by simp [h]), if_neg (by simp [ha])]; rfl
  have HSO : sideOr nm.data.toList bd l k x y z = 0 := by unfold sideOr; rw [HE, if_neg (by decide)]
  have HSi := Lib.hid (fun w' (g c : Nat) (h : OrbIn w' nm (some ⟨g, 0, none⟩) c l) => SideOf_any nm bd k x y z (some ⟨g, 0, none⟩) c l w' h)
  rw [HE, HSO] at HSi
  have HEr := Lib.hid (fun w' (h : OrbIn w' nm a cap l) => Err_any nm bd a cap l w' h)
  rw [h] at HEr
  have HW := Lib.hid (fun w => rWithin_any k 0 (l.length - 2) w)
  have ha' : rngB k 0 (l.length - 2) = false := ha
  rw [ha'] at HW
  have HO := Lib.hid hO
  have hn : (l.length : Int) ≤ 1000 := by omega
  have hn' : (2 : Int) ≤ l.length := by omega
  clear h hO hf HE HSO ha ha'
  refine Calls.made fun R HR => ?_
  go_enter Try.func9, Try.ntmps9
  go_wp2_with (first | (go_at_call 15; refine (awake_any _).mono ?_; rintro e w1 ⟨rfl, hb1⟩; have hc1 := (Free.cells_of hb1).1; have hf1 := (Free.cells_of hb1).2; have hz1 := hb1.size; (try simp only [World.size_alloc, World.size_setCell, World.size_drew] at hz1); (try (have : w.heap.size < w1.heap.size := (by omega))); (try (have : w.heap.size < w1.heap.size + 1 := (by omega))); (try (have : w.heap.size < w1.heap.size + 1 + 1 := (by omega))); (try (have : w.heap.size + 1 < w1.heap.size := (by omega))); (try (have : w.heap.size + 1 < w1.heap.size + 1 := (by omega))); (try (have : w.heap.size + 1 < w1.heap.size + 1 + 1 := (by omega))); (try (have : w.heap.size + 1 + 1 < w1.heap.size := (by omega))); (try (have : w.heap.size + 1 + 1 < w1.heap.size + 1 := (by omega))); (try (have : w.heap.size + 1 + 1 < w1.heap.size + 1 + 1 := (by omega))); (try (have : w.heap.size + 1 + 1 + 1 < w1.heap.size := (by omega))); (try (have : w.heap.size + 1 + 1 + 1 < w1.heap.size + 1 := (by omega))); (try (have : w.heap.size + 1 + 1 + 1 < w1.heap.size + 1 + 1 := (by omega)))) | (go_at_call 25; refine (HF.out _).mono ?_; rintro e w2 ⟨rfl, hb2⟩; have hc2 := (Free.cells_of hb2).1; have hf2 := (Free.cells_of hb2).2; have hz2 := hb2.size; (try simp only [World.size_alloc, World.size_setCell, World.size_drew] at hz2); (try (have : w.heap.size < w2.heap.size := (by omega))); (try (have : w.heap.size < w2.heap.size + 1 := (by omega))); (try (have : w.heap.size < w2.heap.size + 1 + 1 := (by omega))); (try (have : w.heap.size + 1 < w2.heap.size := (by omega))); (try (have : w.heap.size + 1 < w2.heap.size + 1 := (by omega))); (try (have : w.heap.size + 1 < w2.heap.size + 1 + 1 := (by omega))); (try (have : w.heap.size + 1 + 1 < w2.heap.size := (by omega))); (try (have : w.heap.size + 1 + 1 < w2.heap.size + 1 := (by omega))); (try (have : w.heap.size + 1 + 1 < w2.heap.size + 1 + 1 := (by omega))); (try (have : w.heap.size + 1 + 1 + 1 < w2.heap.size := (by omega))); (try (have : w.heap.size + 1 + 1 + 1 < w2.heap.size + 1 := (by omega))); (try (have : w.heap.size + 1 + 1 + 1 < w2.heap.size + 1 + 1 := (by omega))); (try (have : w1.heap.size < w2.heap.size := (by omega))); (try (have : w1.heap.size < w2.heap.size + 1 := (by omega))); (try (have : w1.heap.size < w2.heap.size + 1 + 1 := (by omega))); (try (have : w1.heap.size + 1 < w2.heap.size := (by omega))); (try (have : w1.heap.size + 1 < w2.heap.size + 1 := (by omega))); (try (have : w1.heap.size + 1 < w2.heap.size + 1 + 1 := (by omega))); (try (have : w1.heap.size + 1 + 1 < w2.heap.size := (by omega))); (try (have : w1.heap.size + 1 + 1 < w2.heap.size + 1 := (by omega))); (try (have : w1.heap.size + 1 + 1 < w2.heap.size + 1 + 1 := (by omega))); (try (have : w1.heap.size + 1 + 1 + 1 < w2.heap.size := (by omega))); (try (have : w1.heap.size + 1 + 1 + 1 < w2.heap.size + 1 := (by omega))); (try (have : w1.heap.size + 1 + 1 + 1 < w2.heap.size + 1 + 1 := (by omega)))))
  refine Free.wp_region 10 #[0, 1, 0, 0, 15, 31, 63, 63, 127, 511] (by kernel_rfl) (by kernel_rfl) ?_
  simp only [List.take_succ_cons, List.take_zero]
  iterate 1
    refine Free.E.q (by rfl) ?_
    apply Exists.intro
    refine ⟨fun u w' hc hb => ?_, ?_⟩
    go_simp
    (try go_ints); (try simp only [Ob.ite_imx, Ob.ite_imn]); first | exact rfl | (go_simp; exact rfl) | (simp only [↓IntWalk.iteOmega]; (try go_simp); exact rfl)
    simp only [Act.put, List.setIfInBounds_toArray, List.set_cons_zero, List.set_cons_succ, List.nil_append, List.cons_append]
  refine Free.E.r (F := CopyF nm bd l) (by rfl) (CopyF.mono nm bd l) (fun u w' S hc hb hs => ?_) ?_
  · go_simp
    refine Free.relUpon_enter ?_
    exact HC.out _ _ _ (HO.out.below (by repeat' first | with_reducible exact Below.refl _ _ | with_reducible assumption | with_reducible refine Free.Grow.alloc ?_ _ | with_reducible refine Free.Grow.setCell ?_ (by first | omega | (simp; done) | (simp; omega)) _ | with_reducible refine Free.Grow.drew ?_ | with_reducible refine Free.Grow.trans ?_ (by assumption))) hs
  simp only [Act.put, List.setIfInBounds_toArray, List.set_cons_zero, List.set_cons_succ, List.nil_append, List.cons_append]
  iterate 2
    refine Free.E.q (by rfl) ?_
    apply Exists.intro
    refine ⟨fun u w' hc hb => ?_, ?_⟩
    go_simp
    (try go_ints); (try simp only [Ob.ite_imx, Ob.ite_imn]); first | exact rfl | (go_simp; exact rfl) | (simp only [↓IntWalk.iteOmega]; (try go_simp); exact rfl)
    simp only [Act.put, List.setIfInBounds_toArray, List.set_cons_zero, List.set_cons_succ, List.nil_append, List.cons_append]
  refine Free.E.qf (by rfl) ?_
  apply Exists.intro
  refine ⟨fun u w' S hc hb hF => ?_, ?_⟩
  · obtain ⟨gx, capx, hux, hgx, -, hOx⟩ := hF 1 _ rfl (by rfl)
    go_simp
    try simp only [hux]
    (go_at_call 43; exact HSi.out _ _ _ hOx)
  simp only [Act.put, List.setIfInBounds_toArray, List.set_cons_zero, List.set_cons_succ, List.nil_append, List.cons_append]
  iterate 5
    refine Free.E.q (by rfl) ?_
    apply Exists.intro
    refine ⟨fun u w' hc hb => ?_, ?_⟩
    go_simp
    (try go_ints); (try simp only [Ob.ite_imx, Ob.ite_imn]); first | exact rfl | (go_simp; exact rfl) | (simp only [↓IntWalk.iteOmega]; (try go_simp); exact rfl)
    simp only [Act.put, List.setIfInBounds_toArray, List.set_cons_zero, List.set_cons_succ, List.nil_append, List.cons_append]
  refine Free.E.nil (fun u w3 S hF => ?_)
  have hb3 := hF.below
  have hm3_1 := hF.facts 1 _ rfl
  clear hF
  have hc3 := (Free.cells_of hb3).1
  have hf3 := (Free.cells_of hb3).2
  have hz3 := hb3.size
  obtain ⟨g3_1, cap3_1, hu3_1, hg3_1, -, hO3_1⟩ := hm3_1
  simp only [hu3_1]
  have HO3_1 := Lib.hid hO3_1
  clear hu3_1 hO3_1
  try simp only [World.size_alloc, World.size_setCell, World.size_drew] at hz3
  (try (have : w.heap.size < w3.heap.size := (by omega)))
  (try (have : w.heap.size < w3.heap.size + 1 := (by omega)))
  (try (have : w.heap.size < w3.heap.size + 1 + 1 := (by omega)))
  (try (have : w.heap.size + 1 < w3.heap.size := (by omega)))
  (try (have : w.heap.size + 1 < w3.heap.size + 1 := (by omega)))
  (try (have : w.heap.size + 1 < w3.heap.size + 1 + 1 := (by omega)))
  (try (have : w.heap.size + 1 + 1 < w3.heap.size := (by omega)))
  (try (have : w.heap.size + 1 + 1 < w3.heap.size + 1 := (by omega)))
  (try (have : w.heap.size + 1 + 1 < w3.heap.size + 1 + 1 := (by omega)))
  (try (have : w.heap.size + 1 + 1 + 1 < w3.heap.size := (by omega)))
  (try (have : w.heap.size + 1 + 1 + 1 < w3.heap.size + 1 := (by omega)))
  (try (have : w.heap.size + 1 + 1 + 1 < w3.heap.size + 1 + 1 := (by omega)))
  (try (have : w1.heap.size < w3.heap.size := (by omega)))
  (try (have : w1.heap.size < w3.heap.size + 1 := (by omega)))
  (try (have : w1.heap.size < w3.heap.size + 1 + 1 := (by omega)))
  (try (have : w1.heap.size + 1 < w3.heap.size := (by omega)))
  (try (have : w1.heap.size + 1 < w3.heap.size + 1 := (by omega)))
  (try (have : w1.heap.size + 1 < w3.heap.size + 1 + 1 := (by omega)))
  (try (have : w1.heap.size + 1 + 1 < w3.heap.size := (by omega)))
  (try (have : w1.heap.size + 1 + 1 < w3.heap.size + 1 := (by omega)))
  (try (have : w1.heap.size + 1 + 1 < w3.heap.size + 1 + 1 := (by omega)))
  (try (have : w1.heap.size + 1 + 1 + 1 < w3.heap.size := (by omega)))
  (try (have : w1.heap.size + 1 + 1 + 1 < w3.heap.size + 1 := (by omega)))
  (try (have : w1.heap.size + 1 + 1 + 1 < w3.heap.size + 1 + 1 := (by omega)))
  (try (have : w2.heap.size < w3.heap.size := (by omega)))
  (try (have : w2.heap.size < w3.heap.size + 1 := (by omega)))
  (try (have : w2.heap.size < w3.heap.size + 1 + 1 := (by omega)))
  (try (have : w2.heap.size + 1 < w3.heap.size := (by omega)))
  (try (have : w2.heap.size + 1 < w3.heap.size + 1 := (by omega)))
  (try (have : w2.heap.size + 1 < w3.heap.size + 1 + 1 := (by omega)))
  (try (have : w2.heap.size + 1 + 1 < w3.heap.size := (by omega)))
  (try (have : w2.heap.size + 1 + 1 < w3.heap.size + 1 := (by omega)))
  (try (have : w2.heap.size + 1 + 1 < w3.heap.size + 1 + 1 := (by omega)))
  (try (have : w2.heap.size + 1 + 1 + 1 < w3.heap.size := (by omega)))
  (try (have : w2.heap.size + 1 + 1 + 1 < w3.heap.size + 1 := (by omega)))
  (try (have : w2.heap.size + 1 + 1 + 1 < w3.heap.size + 1 + 1 := (by omega)))
  simp only [List.drop_succ_cons, List.drop_zero, List.drop_nil]
  go_wp2_with fail
  refine (HEr.out _ (HO.out.below (by repeat' first | with_reducible exact Below.refl _ _ | with_reducible assumption | with_reducible refine Free.Grow.alloc ?_ _ | with_reducible refine Free.Grow.setCell ?_ (by first | omega | (simp; done) | (simp; omega)) _ | with_reducible refine Free.Grow.drew ?_ | with_reducible refine Free.Grow.trans ?_ (by assumption)))).mono ?_
  rintro e w5 ⟨rfl, hb5⟩
  have hc5 := (Free.cells_of hb5).1; have hf5 := (Free.cells_of hb5).2; have hz5 := hb5.size; (try simp only [World.size_alloc, World.size_setCell, World.size_drew] at hz5)
  (try (have : w.heap.size < w5.heap.size := (by omega))); (try (have : w.heap.size < w5.heap.size + 1 := (by omega))); (try (have : w.heap.size < w5.heap.size + 1 + 1 := (by omega))); (try (have : w.heap.size + 1 < w5.heap.size := (by omega))); (try (have : w.heap.size + 1 < w5.heap.size + 1 := (by omega))); (try (have : w.heap.size + 1 < w5.heap.size + 1 + 1 := (by omega))); (try (have : w.heap.size + 1 + 1 < w5.heap.size := (by omega))); (try (have : w.heap.size + 1 + 1 < w5.heap.size + 1 := (by omega))); (try (have : w.heap.size + 1 + 1 < w5.heap.size + 1 + 1 := (by omega))); (try (have : w.heap.size + 1 + 1 + 1 < w5.heap.size := (by omega))); (try (have : w.heap.size + 1 + 1 + 1 < w5.heap.size + 1 := (by omega))); (try (have : w.heap.size + 1 + 1 + 1 < w5.heap.size + 1 + 1 := (by omega)))
  go_wp2_with (go_at_call 21; refine (HW.out _).mono ?_; rintro e w' ⟨rfl, rfl⟩)
  first | (go_ret; exact HR.out _ (by repeat' first | with_reducible exact Below.refl _ _ | with_reducible assumption | with_reducible refine Free.Grow.alloc ?_ _ | with_reducible refine Free.Grow.setCell ?_ (by first | omega | (simp; done) | (simp; omega)) _ | with_reducible refine Free.Grow.drew ?_ | with_reducible refine Free.Grow.trans ?_ (by assumption))) | exact HR.out _ (by repeat' first | with_reducible exact Below.refl _ _ | with_reducible assumption | with_reducible refine Free.Grow.alloc ?_ _ | with_reducible refine Free.Grow.setCell ?_ (by first | omega | (simp; done) | (simp; omega)) _ | with_reducible refine Free.Grow.drew ?_ | with_reducible refine Free.Grow.trans ?_ (by assumption))

set_option maxRecDepth 100000 in
set_option maxHeartbeats 4000000 in
theorem walk_place (nm : ByteArray) (bd k x y z : Int) (a : Option Addr) (cap : Nat) (l : List St) (w : World) (hO : OrbIn w nm a cap l) (hf : fewB nm.size l.length = true) (h : (orbE nm.data.toList bd l).2 = 0) (ha : arcB l k = true) (hp : placeE x y z ≠ 0) :
    Calls Try.prog 9 #[obV nm bd a l.length cap, .int .i64 k, v3 x y z] w fun e w' => e = .returned (.bool true) ∧ Below w.heap.size w w' := by
  have HF := Lib.hid (fun w' => Few_any nm bd a l.length cap w' hO.len (by have := hO.nm; omega))
  rw [hf] at HF
  have h40 := (fewB_spec hf).2
  have hn2 := (orbE_right h).1.n2
  have HC := Lib.hid (fun w' w0 S (h : OrbIn w' nm a cap l) (hs : Free.Safe w0 w' S) => Copy_rel (bd := bd) h (by omega) hs)
  have hp2 : placeE x y z = 2 := (placeE_or x y z).resolve_left hp
  have HE : sideE nm.data.toList bd l k x y z = 2 := by unfold sideE arcE; rw [if_neg (by simp [h]), if_pos ha, hp2]; rfl
  have HSO : sideOr nm.data.toList bd l k x y z = 0 := by unfold sideOr; rw [HE, if_neg (by decide)]
  have HSi := Lib.hid (fun w' (g c : Nat) (h : OrbIn w' nm (some ⟨g, 0, none⟩) c l) => SideOf_any nm bd k x y z (some ⟨g, 0, none⟩) c l w' h)
  rw [HE, HSO] at HSi
  have HEr := Lib.hid (fun w' (h : OrbIn w' nm a cap l) => Err_any nm bd a cap l w' h)
  rw [h] at HEr
  have HW := Lib.hid (fun w => rWithin_any k 0 (l.length - 2) w)
  have ha' : rngB k 0 (l.length - 2) = true := ha
  rw [ha'] at HW
  have HP := Lib.hid (fun w => IsPlace_any x y z w)
  have hpl : plB x y z = false := by unfold plB; simpa using hp
  rw [hpl] at HP
  have HO := Lib.hid hO
  have hn : (l.length : Int) ≤ 1000 := by omega
  have hn' : (2 : Int) ≤ l.length := by omega
  clear h hO hf HE HSO ha ha' hp hp2 hpl
  refine Calls.made fun R HR => ?_
  go_enter Try.func9, Try.ntmps9
  go_wp2_with (first | (go_at_call 15; refine (awake_any _).mono ?_; rintro e w1 ⟨rfl, hb1⟩; have hc1 := (Free.cells_of hb1).1; have hf1 := (Free.cells_of hb1).2; have hz1 := hb1.size; (try simp only [World.size_alloc, World.size_setCell, World.size_drew] at hz1); (try (have : w.heap.size < w1.heap.size := (by omega))); (try (have : w.heap.size < w1.heap.size + 1 := (by omega))); (try (have : w.heap.size < w1.heap.size + 1 + 1 := (by omega))); (try (have : w.heap.size + 1 < w1.heap.size := (by omega))); (try (have : w.heap.size + 1 < w1.heap.size + 1 := (by omega))); (try (have : w.heap.size + 1 < w1.heap.size + 1 + 1 := (by omega))); (try (have : w.heap.size + 1 + 1 < w1.heap.size := (by omega))); (try (have : w.heap.size + 1 + 1 < w1.heap.size + 1 := (by omega))); (try (have : w.heap.size + 1 + 1 < w1.heap.size + 1 + 1 := (by omega))); (try (have : w.heap.size + 1 + 1 + 1 < w1.heap.size := (by omega))); (try (have : w.heap.size + 1 + 1 + 1 < w1.heap.size + 1 := (by omega))); (try (have : w.heap.size + 1 + 1 + 1 < w1.heap.size + 1 + 1 := (by omega)))) | (go_at_call 25; refine (HF.out _).mono ?_; rintro e w2 ⟨rfl, hb2⟩; have hc2 := (Free.cells_of hb2).1; have hf2 := (Free.cells_of hb2).2; have hz2 := hb2.size; (try simp only [World.size_alloc, World.size_setCell, World.size_drew] at hz2); (try (have : w.heap.size < w2.heap.size := (by omega))); (try (have : w.heap.size < w2.heap.size + 1 := (by omega))); (try (have : w.heap.size < w2.heap.size + 1 + 1 := (by omega))); (try (have : w.heap.size + 1 < w2.heap.size := (by omega))); (try (have : w.heap.size + 1 < w2.heap.size + 1 := (by omega))); (try (have : w.heap.size + 1 < w2.heap.size + 1 + 1 := (by omega))); (try (have : w.heap.size + 1 + 1 < w2.heap.size := (by omega))); (try (have : w.heap.size + 1 + 1 < w2.heap.size + 1 := (by omega))); (try (have : w.heap.size + 1 + 1 < w2.heap.size + 1 + 1 := (by omega))); (try (have : w.heap.size + 1 + 1 + 1 < w2.heap.size := (by omega))); (try (have : w.heap.size + 1 + 1 + 1 < w2.heap.size + 1 := (by omega))); (try (have : w.heap.size + 1 + 1 + 1 < w2.heap.size + 1 + 1 := (by omega))); (try (have : w1.heap.size < w2.heap.size := (by omega))); (try (have : w1.heap.size < w2.heap.size + 1 := (by omega))); (try (have : w1.heap.size < w2.heap.size + 1 + 1 := (by omega))); (try (have : w1.heap.size + 1 < w2.heap.size := (by omega))); (try (have : w1.heap.size + 1 < w2.heap.size + 1 := (by omega))); (try (have : w1.heap.size + 1 < w2.heap.size + 1 + 1 := (by omega))); (try (have : w1.heap.size + 1 + 1 < w2.heap.size := (by omega))); (try (have : w1.heap.size + 1 + 1 < w2.heap.size + 1 := (by omega))); (try (have : w1.heap.size + 1 + 1 < w2.heap.size + 1 + 1 := (by omega))); (try (have : w1.heap.size + 1 + 1 + 1 < w2.heap.size := (by omega))); (try (have : w1.heap.size + 1 + 1 + 1 < w2.heap.size + 1 := (by omega))); (try (have : w1.heap.size + 1 + 1 + 1 < w2.heap.size + 1 + 1 := (by omega)))))
  refine Free.wp_region 10 #[0, 1, 0, 0, 15, 31, 63, 63, 127, 511] (by kernel_rfl) (by kernel_rfl) ?_
  simp only [List.take_succ_cons, List.take_zero]
  iterate 1
    refine Free.E.q (by rfl) ?_
    apply Exists.intro
    refine ⟨fun u w' hc hb => ?_, ?_⟩
    go_simp
    (try go_ints); (try simp only [Ob.ite_imx, Ob.ite_imn]); first | exact rfl | (go_simp; exact rfl) | (simp only [↓IntWalk.iteOmega]; (try go_simp); exact rfl)
    simp only [Act.put, List.setIfInBounds_toArray, List.set_cons_zero, List.set_cons_succ, List.nil_append, List.cons_append]
  refine Free.E.r (F := CopyF nm bd l) (by rfl) (CopyF.mono nm bd l) (fun u w' S hc hb hs => ?_) ?_
  · go_simp
    refine Free.relUpon_enter ?_
    exact HC.out _ _ _ (HO.out.below (by repeat' first | with_reducible exact Below.refl _ _ | with_reducible assumption | with_reducible refine Free.Grow.alloc ?_ _ | with_reducible refine Free.Grow.setCell ?_ (by first | omega | (simp; done) | (simp; omega)) _ | with_reducible refine Free.Grow.drew ?_ | with_reducible refine Free.Grow.trans ?_ (by assumption))) hs
  simp only [Act.put, List.setIfInBounds_toArray, List.set_cons_zero, List.set_cons_succ, List.nil_append, List.cons_append]
  iterate 2
    refine Free.E.q (by rfl) ?_
    apply Exists.intro
    refine ⟨fun u w' hc hb => ?_, ?_⟩
    go_simp
    (try go_ints); (try simp only [Ob.ite_imx, Ob.ite_imn]); first | exact rfl | (go_simp; exact rfl) | (simp only [↓IntWalk.iteOmega]; (try go_simp); exact rfl)
    simp only [Act.put, List.setIfInBounds_toArray, List.set_cons_zero, List.set_cons_succ, List.nil_append, List.cons_append]
  refine Free.E.qf (by rfl) ?_
  apply Exists.intro
  refine ⟨fun u w' S hc hb hF => ?_, ?_⟩
  · obtain ⟨gx, capx, hux, hgx, -, hOx⟩ := hF 1 _ rfl (by rfl)
    go_simp
    try simp only [hux]
    (go_at_call 43; exact HSi.out _ _ _ hOx)
  simp only [Act.put, List.setIfInBounds_toArray, List.set_cons_zero, List.set_cons_succ, List.nil_append, List.cons_append]
  iterate 5
    refine Free.E.q (by rfl) ?_
    apply Exists.intro
    refine ⟨fun u w' hc hb => ?_, ?_⟩
    go_simp
    (try go_ints); (try simp only [Ob.ite_imx, Ob.ite_imn]); first | exact rfl | (go_simp; exact rfl) | (simp only [↓IntWalk.iteOmega]; (try go_simp); exact rfl)
    simp only [Act.put, List.setIfInBounds_toArray, List.set_cons_zero, List.set_cons_succ, List.nil_append, List.cons_append]
  refine Free.E.nil (fun u w3 S hF => ?_)
  have hb3 := hF.below
  have hm3_1 := hF.facts 1 _ rfl
  clear hF
  have hc3 := (Free.cells_of hb3).1
  have hf3 := (Free.cells_of hb3).2
  have hz3 := hb3.size
  obtain ⟨g3_1, cap3_1, hu3_1, hg3_1, -, hO3_1⟩ := hm3_1
  simp only [hu3_1]
  have HO3_1 := Lib.hid hO3_1
  clear hu3_1 hO3_1
  try simp only [World.size_alloc, World.size_setCell, World.size_drew] at hz3
  (try (have : w.heap.size < w3.heap.size := (by omega)))
  (try (have : w.heap.size < w3.heap.size + 1 := (by omega)))
  (try (have : w.heap.size < w3.heap.size + 1 + 1 := (by omega)))
  (try (have : w.heap.size + 1 < w3.heap.size := (by omega)))
  (try (have : w.heap.size + 1 < w3.heap.size + 1 := (by omega)))
  (try (have : w.heap.size + 1 < w3.heap.size + 1 + 1 := (by omega)))
  (try (have : w.heap.size + 1 + 1 < w3.heap.size := (by omega)))
  (try (have : w.heap.size + 1 + 1 < w3.heap.size + 1 := (by omega)))
  (try (have : w.heap.size + 1 + 1 < w3.heap.size + 1 + 1 := (by omega)))
  (try (have : w.heap.size + 1 + 1 + 1 < w3.heap.size := (by omega)))
  (try (have : w.heap.size + 1 + 1 + 1 < w3.heap.size + 1 := (by omega)))
  (try (have : w.heap.size + 1 + 1 + 1 < w3.heap.size + 1 + 1 := (by omega)))
  (try (have : w1.heap.size < w3.heap.size := (by omega)))
  (try (have : w1.heap.size < w3.heap.size + 1 := (by omega)))
  (try (have : w1.heap.size < w3.heap.size + 1 + 1 := (by omega)))
  (try (have : w1.heap.size + 1 < w3.heap.size := (by omega)))
  (try (have : w1.heap.size + 1 < w3.heap.size + 1 := (by omega)))
  (try (have : w1.heap.size + 1 < w3.heap.size + 1 + 1 := (by omega)))
  (try (have : w1.heap.size + 1 + 1 < w3.heap.size := (by omega)))
  (try (have : w1.heap.size + 1 + 1 < w3.heap.size + 1 := (by omega)))
  (try (have : w1.heap.size + 1 + 1 < w3.heap.size + 1 + 1 := (by omega)))
  (try (have : w1.heap.size + 1 + 1 + 1 < w3.heap.size := (by omega)))
  (try (have : w1.heap.size + 1 + 1 + 1 < w3.heap.size + 1 := (by omega)))
  (try (have : w1.heap.size + 1 + 1 + 1 < w3.heap.size + 1 + 1 := (by omega)))
  (try (have : w2.heap.size < w3.heap.size := (by omega)))
  (try (have : w2.heap.size < w3.heap.size + 1 := (by omega)))
  (try (have : w2.heap.size < w3.heap.size + 1 + 1 := (by omega)))
  (try (have : w2.heap.size + 1 < w3.heap.size := (by omega)))
  (try (have : w2.heap.size + 1 < w3.heap.size + 1 := (by omega)))
  (try (have : w2.heap.size + 1 < w3.heap.size + 1 + 1 := (by omega)))
  (try (have : w2.heap.size + 1 + 1 < w3.heap.size := (by omega)))
  (try (have : w2.heap.size + 1 + 1 < w3.heap.size + 1 := (by omega)))
  (try (have : w2.heap.size + 1 + 1 < w3.heap.size + 1 + 1 := (by omega)))
  (try (have : w2.heap.size + 1 + 1 + 1 < w3.heap.size := (by omega)))
  (try (have : w2.heap.size + 1 + 1 + 1 < w3.heap.size + 1 := (by omega)))
  (try (have : w2.heap.size + 1 + 1 + 1 < w3.heap.size + 1 + 1 := (by omega)))
  simp only [List.drop_succ_cons, List.drop_zero, List.drop_nil]
  go_wp2_with fail
  refine (HEr.out _ (HO.out.below (by repeat' first | with_reducible exact Below.refl _ _ | with_reducible assumption | with_reducible refine Free.Grow.alloc ?_ _ | with_reducible refine Free.Grow.setCell ?_ (by first | omega | (simp; done) | (simp; omega)) _ | with_reducible refine Free.Grow.drew ?_ | with_reducible refine Free.Grow.trans ?_ (by assumption)))).mono ?_
  rintro e w5 ⟨rfl, hb5⟩
  have hc5 := (Free.cells_of hb5).1; have hf5 := (Free.cells_of hb5).2; have hz5 := hb5.size; (try simp only [World.size_alloc, World.size_setCell, World.size_drew] at hz5)
  (try (have : w.heap.size < w5.heap.size := (by omega))); (try (have : w.heap.size < w5.heap.size + 1 := (by omega))); (try (have : w.heap.size < w5.heap.size + 1 + 1 := (by omega))); (try (have : w.heap.size + 1 < w5.heap.size := (by omega))); (try (have : w.heap.size + 1 < w5.heap.size + 1 := (by omega))); (try (have : w.heap.size + 1 < w5.heap.size + 1 + 1 := (by omega))); (try (have : w.heap.size + 1 + 1 < w5.heap.size := (by omega))); (try (have : w.heap.size + 1 + 1 < w5.heap.size + 1 := (by omega))); (try (have : w.heap.size + 1 + 1 < w5.heap.size + 1 + 1 := (by omega))); (try (have : w.heap.size + 1 + 1 + 1 < w5.heap.size := (by omega))); (try (have : w.heap.size + 1 + 1 + 1 < w5.heap.size + 1 := (by omega))); (try (have : w.heap.size + 1 + 1 + 1 < w5.heap.size + 1 + 1 := (by omega)))
  go_wp2_with (first | (go_at_call 21; refine (HW.out _).mono ?_; rintro e w' ⟨rfl, rfl⟩) | (go_at_call 20; refine (HP.out _).mono ?_; rintro e w6 ⟨rfl, hb6⟩; have hc6 := (Free.cells_of hb6).1; have hf6 := (Free.cells_of hb6).2; have hz6 := hb6.size; (try simp only [World.size_alloc, World.size_setCell, World.size_drew] at hz6); (try (have : w.heap.size < w6.heap.size := (by omega))); (try (have : w.heap.size < w6.heap.size + 1 := (by omega))); (try (have : w.heap.size < w6.heap.size + 1 + 1 := (by omega))); (try (have : w.heap.size + 1 < w6.heap.size := (by omega))); (try (have : w.heap.size + 1 < w6.heap.size + 1 := (by omega))); (try (have : w.heap.size + 1 < w6.heap.size + 1 + 1 := (by omega))); (try (have : w.heap.size + 1 + 1 < w6.heap.size := (by omega))); (try (have : w.heap.size + 1 + 1 < w6.heap.size + 1 := (by omega))); (try (have : w.heap.size + 1 + 1 < w6.heap.size + 1 + 1 := (by omega))); (try (have : w.heap.size + 1 + 1 + 1 < w6.heap.size := (by omega))); (try (have : w.heap.size + 1 + 1 + 1 < w6.heap.size + 1 := (by omega))); (try (have : w.heap.size + 1 + 1 + 1 < w6.heap.size + 1 + 1 := (by omega)))))
  first | (go_ret; exact HR.out _ (by repeat' first | with_reducible exact Below.refl _ _ | with_reducible assumption | with_reducible refine Free.Grow.alloc ?_ _ | with_reducible refine Free.Grow.setCell ?_ (by first | omega | (simp; done) | (simp; omega)) _ | with_reducible refine Free.Grow.drew ?_ | with_reducible refine Free.Grow.trans ?_ (by assumption))) | exact HR.out _ (by repeat' first | with_reducible exact Below.refl _ _ | with_reducible assumption | with_reducible refine Free.Grow.alloc ?_ _ | with_reducible refine Free.Grow.setCell ?_ (by first | omega | (simp; done) | (simp; omega)) _ | with_reducible refine Free.Grow.drew ?_ | with_reducible refine Free.Grow.trans ?_ (by assumption))

set_option maxRecDepth 100000 in
set_option maxHeartbeats 4000000 in
theorem walk_ok (nm : ByteArray) (bd k x y z : Int) (a : Option Addr) (cap : Nat) (l : List St) (w : World) (hO : OrbIn w nm a cap l) (hf : fewB nm.size l.length = true) (h : (orbE nm.data.toList bd l).2 = 0) (ha : arcB l k = true) (hp : placeE x y z = 0) :
    Calls Try.prog 9 #[obV nm bd a l.length cap, .int .i64 k, v3 x y z] w fun e w' => e = .returned (.bool true) ∧ Below w.heap.size w w' := by
  have HF := Lib.hid (fun w' => Few_any nm bd a l.length cap w' hO.len (by have := hO.nm; omega))
  rw [hf] at HF
  have h40 := (fewB_spec hf).2
  have hR := (orbE_right h).1
  have hn2 := hR.n2
  obtain ⟨b, off, rfl, hbw, hmem⟩ := hO.mem hR
  have HC := Lib.hid (fun w' w0 S (h : OrbIn w' nm (some ⟨b, off, none⟩) cap l) (hs : Free.Safe w0 w' S) => Copy_rel (bd := bd) h (by omega) hs)
  have HAE : arcE l k = 0 := by unfold arcE; rw [if_pos ha]
  have HE : sideE nm.data.toList bd l k x y z = 0 := by unfold sideE; rw [if_neg (by simp [h]), HAE, hp]; rfl
  obtain ⟨-, e1, e2, m0, m1⟩ := arc_zero HAE
  have HSO : sideOr nm.data.toList bd l k x y z = sideV (at_ l k.toNat) (at_ l (k.toNat + 1)) x y := by unfold sideOr; rw [HE, if_pos rfl, e1, e2]
  have HSi := Lib.hid (fun w' (g c : Nat) (h : OrbIn w' nm (some ⟨g, 0, none⟩) c l) => SideOf_any nm bd k x y z (some ⟨g, 0, none⟩) c l w' h)
  rw [HE, HSO] at HSi
  have hpz := placeE_zero hp
  have HRS := Lib.hid (fun w' (hS : HasSts w' b off l) (hb : b < w'.heap.size) => rSideOf_any nm bd k x y z b off cap l w' hR m0 m1 hpz.1 hpz.2.1 hS hb)
  have HEr := Lib.hid (fun w' (h : OrbIn w' nm (some ⟨b, off, none⟩) cap l) => Err_any nm bd (some ⟨b, off, none⟩) cap l w' h)
  rw [h] at HEr
  have HW := Lib.hid (fun w => rWithin_any k 0 (l.length - 2) w)
  have ha' : rngB k 0 (l.length - 2) = true := ha
  rw [ha'] at HW
  have HP := Lib.hid (fun w => IsPlace_any x y z w)
  have hpl : plB x y z = true := by unfold plB; simpa using hp
  rw [hpl] at HP
  have HO := Lib.hid hO
  have HM := Lib.hid hmem
  have hn : (l.length : Int) ≤ 1000 := by omega
  have hn' : (2 : Int) ≤ l.length := by omega
  clear h hO hf HE HSO ha ha' hp hpl hR hmem e1 e2 HAE hpz
  generalize sideV (at_ l k.toNat) (at_ l (k.toNat + 1)) x y = sv at *
  refine Calls.made fun R HR => ?_
  go_enter Try.func9, Try.ntmps9
  go_wp2_with (first | (go_at_call 15; refine (awake_any _).mono ?_; rintro e w1 ⟨rfl, hb1⟩; have hc1 := (Free.cells_of hb1).1; have hf1 := (Free.cells_of hb1).2; have hz1 := hb1.size; (try simp only [World.size_alloc, World.size_setCell, World.size_drew] at hz1); (try (have : w.heap.size < w1.heap.size := (by omega))); (try (have : w.heap.size < w1.heap.size + 1 := (by omega))); (try (have : w.heap.size < w1.heap.size + 1 + 1 := (by omega))); (try (have : w.heap.size + 1 < w1.heap.size := (by omega))); (try (have : w.heap.size + 1 < w1.heap.size + 1 := (by omega))); (try (have : w.heap.size + 1 < w1.heap.size + 1 + 1 := (by omega))); (try (have : w.heap.size + 1 + 1 < w1.heap.size := (by omega))); (try (have : w.heap.size + 1 + 1 < w1.heap.size + 1 := (by omega))); (try (have : w.heap.size + 1 + 1 < w1.heap.size + 1 + 1 := (by omega))); (try (have : w.heap.size + 1 + 1 + 1 < w1.heap.size := (by omega))); (try (have : w.heap.size + 1 + 1 + 1 < w1.heap.size + 1 := (by omega))); (try (have : w.heap.size + 1 + 1 + 1 < w1.heap.size + 1 + 1 := (by omega)))) | (go_at_call 25; refine (HF.out _).mono ?_; rintro e w2 ⟨rfl, hb2⟩; have hc2 := (Free.cells_of hb2).1; have hf2 := (Free.cells_of hb2).2; have hz2 := hb2.size; (try simp only [World.size_alloc, World.size_setCell, World.size_drew] at hz2); (try (have : w.heap.size < w2.heap.size := (by omega))); (try (have : w.heap.size < w2.heap.size + 1 := (by omega))); (try (have : w.heap.size < w2.heap.size + 1 + 1 := (by omega))); (try (have : w.heap.size + 1 < w2.heap.size := (by omega))); (try (have : w.heap.size + 1 < w2.heap.size + 1 := (by omega))); (try (have : w.heap.size + 1 < w2.heap.size + 1 + 1 := (by omega))); (try (have : w.heap.size + 1 + 1 < w2.heap.size := (by omega))); (try (have : w.heap.size + 1 + 1 < w2.heap.size + 1 := (by omega))); (try (have : w.heap.size + 1 + 1 < w2.heap.size + 1 + 1 := (by omega))); (try (have : w.heap.size + 1 + 1 + 1 < w2.heap.size := (by omega))); (try (have : w.heap.size + 1 + 1 + 1 < w2.heap.size + 1 := (by omega))); (try (have : w.heap.size + 1 + 1 + 1 < w2.heap.size + 1 + 1 := (by omega))); (try (have : w1.heap.size < w2.heap.size := (by omega))); (try (have : w1.heap.size < w2.heap.size + 1 := (by omega))); (try (have : w1.heap.size < w2.heap.size + 1 + 1 := (by omega))); (try (have : w1.heap.size + 1 < w2.heap.size := (by omega))); (try (have : w1.heap.size + 1 < w2.heap.size + 1 := (by omega))); (try (have : w1.heap.size + 1 < w2.heap.size + 1 + 1 := (by omega))); (try (have : w1.heap.size + 1 + 1 < w2.heap.size := (by omega))); (try (have : w1.heap.size + 1 + 1 < w2.heap.size + 1 := (by omega))); (try (have : w1.heap.size + 1 + 1 < w2.heap.size + 1 + 1 := (by omega))); (try (have : w1.heap.size + 1 + 1 + 1 < w2.heap.size := (by omega))); (try (have : w1.heap.size + 1 + 1 + 1 < w2.heap.size + 1 := (by omega))); (try (have : w1.heap.size + 1 + 1 + 1 < w2.heap.size + 1 + 1 := (by omega)))))
  refine Free.wp_region 10 #[0, 1, 0, 0, 15, 31, 63, 63, 127, 511] (by kernel_rfl) (by kernel_rfl) ?_
  simp only [List.take_succ_cons, List.take_zero]
  iterate 1
    refine Free.E.q (by rfl) ?_
    apply Exists.intro
    refine ⟨fun u w' hc hb => ?_, ?_⟩
    go_simp
    (try go_ints); (try simp only [Ob.ite_imx, Ob.ite_imn]); first | exact rfl | (go_simp; exact rfl) | (simp only [↓IntWalk.iteOmega]; (try go_simp); exact rfl)
    simp only [Act.put, List.setIfInBounds_toArray, List.set_cons_zero, List.set_cons_succ, List.nil_append, List.cons_append]
  refine Free.E.r (F := CopyF nm bd l) (by rfl) (CopyF.mono nm bd l) (fun u w' S hc hb hs => ?_) ?_
  · go_simp
    refine Free.relUpon_enter ?_
    exact HC.out _ _ _ (HO.out.below (by repeat' first | with_reducible exact Below.refl _ _ | with_reducible assumption | with_reducible refine Free.Grow.alloc ?_ _ | with_reducible refine Free.Grow.setCell ?_ (by first | omega | (simp; done) | (simp; omega)) _ | with_reducible refine Free.Grow.drew ?_ | with_reducible refine Free.Grow.trans ?_ (by assumption))) hs
  simp only [Act.put, List.setIfInBounds_toArray, List.set_cons_zero, List.set_cons_succ, List.nil_append, List.cons_append]
  iterate 2
    refine Free.E.q (by rfl) ?_
    apply Exists.intro
    refine ⟨fun u w' hc hb => ?_, ?_⟩
    go_simp
    (try go_ints); (try simp only [Ob.ite_imx, Ob.ite_imn]); first | exact rfl | (go_simp; exact rfl) | (simp only [↓IntWalk.iteOmega]; (try go_simp); exact rfl)
    simp only [Act.put, List.setIfInBounds_toArray, List.set_cons_zero, List.set_cons_succ, List.nil_append, List.cons_append]
  refine Free.E.qf (by rfl) ?_
  apply Exists.intro
  refine ⟨fun u w' S hc hb hF => ?_, ?_⟩
  · obtain ⟨gx, capx, hux, hgx, -, hOx⟩ := hF 1 _ rfl (by rfl)
    go_simp
    try simp only [hux]
    (go_at_call 43; exact HSi.out _ _ _ hOx)
  simp only [Act.put, List.setIfInBounds_toArray, List.set_cons_zero, List.set_cons_succ, List.nil_append, List.cons_append]
  iterate 5
    refine Free.E.q (by rfl) ?_
    apply Exists.intro
    refine ⟨fun u w' hc hb => ?_, ?_⟩
    go_simp
    (try go_ints); (try simp only [Ob.ite_imx, Ob.ite_imn]); first | exact rfl | (go_simp; exact rfl) | (simp only [↓IntWalk.iteOmega]; (try go_simp); exact rfl)
    simp only [Act.put, List.setIfInBounds_toArray, List.set_cons_zero, List.set_cons_succ, List.nil_append, List.cons_append]
  refine Free.E.nil (fun u w3 S hF => ?_)
  have hb3 := hF.below
  have hm3_1 := hF.facts 1 _ rfl
  clear hF
  have hc3 := (Free.cells_of hb3).1
  have hf3 := (Free.cells_of hb3).2
  have hz3 := hb3.size
  obtain ⟨g3_1, cap3_1, hu3_1, hg3_1, -, hO3_1⟩ := hm3_1
  simp only [hu3_1]
  have HO3_1 := Lib.hid hO3_1
  clear hu3_1 hO3_1
  try simp only [World.size_alloc, World.size_setCell, World.size_drew] at hz3
  (try (have : w.heap.size < w3.heap.size := (by omega)))
  (try (have : w.heap.size < w3.heap.size + 1 := (by omega)))
  (try (have : w.heap.size < w3.heap.size + 1 + 1 := (by omega)))
  (try (have : w.heap.size + 1 < w3.heap.size := (by omega)))
  (try (have : w.heap.size + 1 < w3.heap.size + 1 := (by omega)))
  (try (have : w.heap.size + 1 < w3.heap.size + 1 + 1 := (by omega)))
  (try (have : w.heap.size + 1 + 1 < w3.heap.size := (by omega)))
  (try (have : w.heap.size + 1 + 1 < w3.heap.size + 1 := (by omega)))
  (try (have : w.heap.size + 1 + 1 < w3.heap.size + 1 + 1 := (by omega)))
  (try (have : w.heap.size + 1 + 1 + 1 < w3.heap.size := (by omega)))
  (try (have : w.heap.size + 1 + 1 + 1 < w3.heap.size + 1 := (by omega)))
  (try (have : w.heap.size + 1 + 1 + 1 < w3.heap.size + 1 + 1 := (by omega)))
  (try (have : w1.heap.size < w3.heap.size := (by omega)))
  (try (have : w1.heap.size < w3.heap.size + 1 := (by omega)))
  (try (have : w1.heap.size < w3.heap.size + 1 + 1 := (by omega)))
  (try (have : w1.heap.size + 1 < w3.heap.size := (by omega)))
  (try (have : w1.heap.size + 1 < w3.heap.size + 1 := (by omega)))
  (try (have : w1.heap.size + 1 < w3.heap.size + 1 + 1 := (by omega)))
  (try (have : w1.heap.size + 1 + 1 < w3.heap.size := (by omega)))
  (try (have : w1.heap.size + 1 + 1 < w3.heap.size + 1 := (by omega)))
  (try (have : w1.heap.size + 1 + 1 < w3.heap.size + 1 + 1 := (by omega)))
  (try (have : w1.heap.size + 1 + 1 + 1 < w3.heap.size := (by omega)))
  (try (have : w1.heap.size + 1 + 1 + 1 < w3.heap.size + 1 := (by omega)))
  (try (have : w1.heap.size + 1 + 1 + 1 < w3.heap.size + 1 + 1 := (by omega)))
  (try (have : w2.heap.size < w3.heap.size := (by omega)))
  (try (have : w2.heap.size < w3.heap.size + 1 := (by omega)))
  (try (have : w2.heap.size < w3.heap.size + 1 + 1 := (by omega)))
  (try (have : w2.heap.size + 1 < w3.heap.size := (by omega)))
  (try (have : w2.heap.size + 1 < w3.heap.size + 1 := (by omega)))
  (try (have : w2.heap.size + 1 < w3.heap.size + 1 + 1 := (by omega)))
  (try (have : w2.heap.size + 1 + 1 < w3.heap.size := (by omega)))
  (try (have : w2.heap.size + 1 + 1 < w3.heap.size + 1 := (by omega)))
  (try (have : w2.heap.size + 1 + 1 < w3.heap.size + 1 + 1 := (by omega)))
  (try (have : w2.heap.size + 1 + 1 + 1 < w3.heap.size := (by omega)))
  (try (have : w2.heap.size + 1 + 1 + 1 < w3.heap.size + 1 := (by omega)))
  (try (have : w2.heap.size + 1 + 1 + 1 < w3.heap.size + 1 + 1 := (by omega)))
  simp only [List.drop_succ_cons, List.drop_zero, List.drop_nil]
  go_wp2_with fail
  refine (HEr.out _ (HO.out.below (by repeat' first | with_reducible exact Below.refl _ _ | with_reducible assumption | with_reducible refine Free.Grow.alloc ?_ _ | with_reducible refine Free.Grow.setCell ?_ (by first | omega | (simp; done) | (simp; omega)) _ | with_reducible refine Free.Grow.drew ?_ | with_reducible refine Free.Grow.trans ?_ (by assumption)))).mono ?_
  rintro e w5 ⟨rfl, hb5⟩
  have hc5 := (Free.cells_of hb5).1; have hf5 := (Free.cells_of hb5).2; have hz5 := hb5.size; (try simp only [World.size_alloc, World.size_setCell, World.size_drew] at hz5)
  (try (have : w.heap.size < w5.heap.size := (by omega))); (try (have : w.heap.size < w5.heap.size + 1 := (by omega))); (try (have : w.heap.size < w5.heap.size + 1 + 1 := (by omega))); (try (have : w.heap.size + 1 < w5.heap.size := (by omega))); (try (have : w.heap.size + 1 < w5.heap.size + 1 := (by omega))); (try (have : w.heap.size + 1 < w5.heap.size + 1 + 1 := (by omega))); (try (have : w.heap.size + 1 + 1 < w5.heap.size := (by omega))); (try (have : w.heap.size + 1 + 1 < w5.heap.size + 1 := (by omega))); (try (have : w.heap.size + 1 + 1 < w5.heap.size + 1 + 1 := (by omega))); (try (have : w.heap.size + 1 + 1 + 1 < w5.heap.size := (by omega))); (try (have : w.heap.size + 1 + 1 + 1 < w5.heap.size + 1 := (by omega))); (try (have : w.heap.size + 1 + 1 + 1 < w5.heap.size + 1 + 1 := (by omega)))
  go_wp2_with (first | (go_at_call 21; refine (HW.out _).mono ?_; rintro e w' ⟨rfl, rfl⟩) | (go_at_call 20; refine (HP.out _).mono ?_; rintro e w6 ⟨rfl, hb6⟩; have hc6 := (Free.cells_of hb6).1; have hf6 := (Free.cells_of hb6).2; have hz6 := hb6.size; (try simp only [World.size_alloc, World.size_setCell, World.size_drew] at hz6); (try (have : w.heap.size < w6.heap.size := (by omega))); (try (have : w.heap.size < w6.heap.size + 1 := (by omega))); (try (have : w.heap.size < w6.heap.size + 1 + 1 := (by omega))); (try (have : w.heap.size + 1 < w6.heap.size := (by omega))); (try (have : w.heap.size + 1 < w6.heap.size + 1 := (by omega))); (try (have : w.heap.size + 1 < w6.heap.size + 1 + 1 := (by omega))); (try (have : w.heap.size + 1 + 1 < w6.heap.size := (by omega))); (try (have : w.heap.size + 1 + 1 < w6.heap.size + 1 := (by omega))); (try (have : w.heap.size + 1 + 1 < w6.heap.size + 1 + 1 := (by omega))); (try (have : w.heap.size + 1 + 1 + 1 < w6.heap.size := (by omega))); (try (have : w.heap.size + 1 + 1 + 1 < w6.heap.size + 1 := (by omega))); (try (have : w.heap.size + 1 + 1 + 1 < w6.heap.size + 1 + 1 := (by omega)))) | (go_at_call 44; refine (HRS.out _ (HM.out.below (B := w.heap.size) (by repeat' first | with_reducible exact Below.refl _ _ | with_reducible assumption | with_reducible refine Free.Grow.alloc ?_ _ | with_reducible refine Free.Grow.setCell ?_ (by first | omega | (simp; done) | (simp; omega)) _ | with_reducible refine Free.Grow.drew ?_ | with_reducible refine Free.Grow.trans ?_ (by assumption)) hbw) (by first | omega | (simp; done) | (simp; omega))).mono ?_; rintro e w7 ⟨rfl, hb7⟩; have hc7 := (Free.cells_of hb7).1; have hf7 := (Free.cells_of hb7).2; have hz7 := hb7.size; (try simp only [World.size_alloc, World.size_setCell, World.size_drew] at hz7); (try (have : w.heap.size < w7.heap.size := (by omega))); (try (have : w.heap.size < w7.heap.size + 1 := (by omega))); (try (have : w.heap.size < w7.heap.size + 1 + 1 := (by omega))); (try (have : w.heap.size + 1 < w7.heap.size := (by omega))); (try (have : w.heap.size + 1 < w7.heap.size + 1 := (by omega))); (try (have : w.heap.size + 1 < w7.heap.size + 1 + 1 := (by omega))); (try (have : w.heap.size + 1 + 1 < w7.heap.size := (by omega))); (try (have : w.heap.size + 1 + 1 < w7.heap.size + 1 := (by omega))); (try (have : w.heap.size + 1 + 1 < w7.heap.size + 1 + 1 := (by omega))); (try (have : w.heap.size + 1 + 1 + 1 < w7.heap.size := (by omega))); (try (have : w.heap.size + 1 + 1 + 1 < w7.heap.size + 1 := (by omega))); (try (have : w.heap.size + 1 + 1 + 1 < w7.heap.size + 1 + 1 := (by omega))); (try (have : w6.heap.size < w7.heap.size := (by omega))); (try (have : w6.heap.size < w7.heap.size + 1 := (by omega))); (try (have : w6.heap.size < w7.heap.size + 1 + 1 := (by omega))); (try (have : w6.heap.size + 1 < w7.heap.size := (by omega))); (try (have : w6.heap.size + 1 < w7.heap.size + 1 := (by omega))); (try (have : w6.heap.size + 1 < w7.heap.size + 1 + 1 := (by omega))); (try (have : w6.heap.size + 1 + 1 < w7.heap.size := (by omega))); (try (have : w6.heap.size + 1 + 1 < w7.heap.size + 1 := (by omega))); (try (have : w6.heap.size + 1 + 1 < w7.heap.size + 1 + 1 := (by omega))); (try (have : w6.heap.size + 1 + 1 + 1 < w7.heap.size := (by omega))); (try (have : w6.heap.size + 1 + 1 + 1 < w7.heap.size + 1 := (by omega))); (try (have : w6.heap.size + 1 + 1 + 1 < w7.heap.size + 1 + 1 := (by omega)))))
  first | (go_ret; exact HR.out _ (by repeat' first | with_reducible exact Below.refl _ _ | with_reducible assumption | with_reducible refine Free.Grow.alloc ?_ _ | with_reducible refine Free.Grow.setCell ?_ (by first | omega | (simp; done) | (simp; omega)) _ | with_reducible refine Free.Grow.drew ?_ | with_reducible refine Free.Grow.trans ?_ (by assumption))) | exact HR.out _ (by repeat' first | with_reducible exact Below.refl _ _ | with_reducible assumption | with_reducible refine Free.Grow.alloc ?_ _ | with_reducible refine Free.Grow.setCell ?_ (by first | omega | (simp; done) | (simp; omega)) _ | with_reducible refine Free.Grow.drew ?_ | with_reducible refine Free.Grow.trans ?_ (by assumption))

theorem walk (nm : ByteArray) (bd k x y z : Int) (a : Option Addr) (l : List St) (cap : Nat) (w : World) (hnm : nm.size ≤ maxLen) (hcap : l.length ≤ cap) (hcm : cap ≤ maxLen) (hS : SlSts w a l) :
    Calls Try.prog 9 #[obV nm bd a l.length cap, .int .i64 k, v3 x y z] w fun e w' => e = .returned (.bool true) ∧ Below w.heap.size w w' := by
  simp only [maxLen] at hnm hcm
  cases hf : fewB nm.size l.length with
  | false => exact walk_few_no nm bd k x y z a l.length cap w (by omega) (by omega) hf
  | true =>
    have hO : OrbIn w nm a cap l := ⟨by have := (fewB_spec hf).1; omega, hS, hcap, by omega⟩
    by_cases h : (orbE nm.data.toList bd l).2 = 0
    · cases ha : arcB l k with
      | false => exact walk_arc nm bd k x y z a cap l w hO hf h ha
      | true =>
        by_cases hp : placeE x y z = 0
        · exact walk_ok nm bd k x y z a cap l w hO hf h ha hp
        · exact walk_place nm bd k x y z a cap l w hO hf h ha hp
    · exact walk_err nm bd k x y z a cap l w hO hf h

set_option maxRecDepth 100000 in
theorem lifted (os : Os) (started : os.Started) (H : Type) (enc : TypeId × Value → H) :
    ReturnsInHanded {} Try.checked os 9 .any (Rows.orbitSidesSpec.pre6 enc Try.prog Try.f9 Rows.orbitSidesRow.domain false) (Rows.orbitSidesSpec.post enc Try.prog Try.f9 false true false false) := by
  refine returnsInHanded_of_change (C := Try.checked) own started (by kernel_rfl) Try.func9
    (ChangeSpec.witness6 (enc := enc) (C := Try.checked) false ⟨#[], #[.agg #[.string ⟨#[]⟩, .int .i64 0, .slice none 0 0], .int .i64 0, .agg #[.int .i64 0, .int .i64 0, .int .i64 0]], []⟩ 8 (by kernel_rfl) (by kernel_rfl) (by kernel_rfl) (by kernel_rfl)) ?_
  intro W base args ds gs before hval0 hW hcnd _
  have hval : ∀ (j : Nat) t v, Try.f9.params[j]? = some t → args[j]? = some v → Value.okWide Try.prog W .any base t v := hval0
  have hW' := hW
  obtain ⟨p, q, hA0, hV, rfl, hfz, hnd⟩ := hW
  have hA : DataW.TrodAll enc Try.prog W 0 (fun _ => true) true Try.f9.params.toList args.toList ds p := hA0
  rw [Try.params9] at hA hval
  obtain ⟨v0, vs0, d0, ds0, p0, q0, hargs, rfl, rfl, h0, r0⟩ := trodAll_cons hA
  obtain ⟨v1, vs1, d1, ds1, p1, q1, rfl, rfl, rfl, h1, r1⟩ := trodAll_cons r0
  obtain ⟨v2, vs2, d2, ds2, p2, q2, rfl, rfl, rfl, h2, r2⟩ := trodAll_cons r1
  obtain ⟨rfl, rfl, rfl⟩ := trodAll_nil r2
  obtain rfl : args = #[v0, v1, v2] := by cases args; simp_all
  obtain ⟨rfl, rfl⟩ := trodVars_none hV
  clear hA0 hval0
  have hlt := hW'.lt
  have g0 := h0
  have g1 := h1
  have g2 := h2
  obtain ⟨nm0, bd0, a0, l0, cap0, rfl, hnm0, hbd0, hcap0, hcm0, hS0⟩ := open_orbit (hval 0 24 v0 rfl rfl) h0
  obtain ⟨x1, rfl, -, -, wx1⟩ := open_int Try.underlying3 (hval 1 3 v1 rfl rfl) h1
  obtain ⟨px2, py2, pz2, rfl, hpx2, hpy2, hpz2⟩ := open_place (hval 2 26 v2 rfl rfl) h2
  simp only [List.append_nil] at hW' hlt ⊢
  refine (walk nm0 bd0 x1 px2 py2 pz2 a0 l0 cap0 W hnm0 hcap0 hcm0 hS0).mono fun e W' ⟨he, hb⟩ => ?_
  subst he
  have stay : ∀ (t : TypeId) v d ps (sp : Nat → Bool), Try.prog.readableRec t = true → t < Try.prog.types.size → DataW.Trod enc Try.prog W 0 (fun _ => true) true t v d ps → (∀ x ∈ ps, x.block < W.heap.size) → (∀ x ∈ ps, sp x.block = true) → DataW.Trod enc Try.prog W' 0 sp true t v d ps :=
    fun t v d ps sp hr ht h hx hs => Go.WideElems.Trod_stays laid hr ht h (fun x hxp => hb.same (hx x hxp)) hs
  exact ⟨_, rfl, post_below (pa := p0 ++ (p1 ++ (p2 ++ []))) (pv := []) hW' (fun _ _ _ => trodAll_mk1 (shut_bool Try.underlying4 true)) (fun sp hs => (trodAll_cons_mk (stay 24 _ _ _ sp (by kernel_rfl) (of_decide_eq_true (by kernel_rfl)) g0 (fun x hx => hlt x (by simp [hx])) (fun x hx => hs x (by simp [hx]))) (trodAll_cons_mk (stay 3 _ _ _ sp (by kernel_rfl) (of_decide_eq_true (by kernel_rfl)) g1 (fun x hx => hlt x (by simp [hx])) (fun x hx => hs x (by simp [hx]))) (trodAll_cons_mk (stay 26 _ _ _ sp (by kernel_rfl) (of_decide_eq_true (by kernel_rfl)) g2 (fun x hx => hlt x (by simp [hx])) (fun x hx => hs x (by simp [hx]))) (trodAll_mk0))))) (fun _ _ => rfl) (by simp)
    hb (ok_one (by kernel_rfl) rfl (okWide_bool_mk Try.underlying4 true))⟩

theorem over : Rows.orbitSidesRow.holds Try.pinned (OpenSpec.ofChange Rows.orbitSidesSpec) :=
  OpenClaim.holds_of_wide 9 Try.f9 rfl rfl rfl rfl rfl rfl rfl ⟨rfl, rfl, rfl, rfl, rfl⟩ rfl rfl rfl rfl rfl (by kernel_rfl) Try.func9 (by kernel_rfl)
    (of_decide_eq_true (by kernel_rfl)) (by unfold Func.isWrapper; first | (rw [if_pos (by decide +kernel)]; kernel_rfl) | (rw [if_neg (by decide +kernel)]; exact ⟨rfl, rfl⟩))
    (fun os started H enc _ => lifted os started H enc)

/-- The statement. -/
theorem proved : Rows.OrbitSidesSaid := over
#print axioms proved
end Go.Proofs.Ytaoennekamlfeaa.OrbitSides
