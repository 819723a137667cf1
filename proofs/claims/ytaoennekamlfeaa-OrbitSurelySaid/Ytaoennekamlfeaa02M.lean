/- Chapter 2: CheckNearest of the reference. -/
import Derived.Test.Ytaoennekamlfeaa02K
set_option linter.unusedSimpArgs false
set_option linter.unusedVariables false
namespace Go.Proofs.Ytaoennekamlfeaa
open Go.RowKit Go.Ob

set_option maxRecDepth 100000 in
set_option maxHeartbeats 2000000 in
theorem rCheckNearest_rng (nm : ByteArray) (bd x y z lo hi wi : Int) (b off cap : Nat) (l : List St) (w : World) (hR : Right bd l) (hS : HasSts w b off l) (hbw : b < w.heap.size)
    (hr : (rngB lo (frstT l) (lastT l) = false ∨ rngB hi (frstT l) (lastT l) = false ∨ rngB wi (frstT l) (lastT l) = false)) :
    Calls Try.prog 32 #[obV nm bd (some ⟨b, off, none⟩) l.length cap, v3 x y z, cnV lo hi wi] w fun e w' => e = .returned (.tuple #[.int .i64 0, .int .i64 2]) ∧ Below w.heap.size w w' := by
  have hn2 := hR.n2
  have hn40 := hR.n40
  have HH := Lib.hid (fun t w' (hS' : HasSts w' b off l) (hb' : b < w'.heap.size) => Has_any nm bd t b off cap l w' hS' hb' (by omega) (by omega))
  have HM := Lib.hid hS
  clear hS hR
  generalize frstT l = F at *
  generalize lastT l = L at *
  refine Calls.made fun R HR => ?_
  have key : (rngB lo F L = false) ∨ (rngB lo F L = true ∧ rngB hi F L = false) ∨ (rngB lo F L = true ∧ rngB hi F L = true ∧ rngB wi F L = false) := by
    cases h1 : rngB lo F L <;> cases h2 : rngB hi F L <;> cases h3 : rngB wi F L <;> simp_all
  clear hr
  rcases key with h1 | ⟨h1, h2⟩ | ⟨h1, h2, h3⟩
  all_goals
    go_enter Try.func32, Try.ntmps32
    go_wp2_with (go_at_call 59; refine (HH.out _ _ (HM.out.below (B := w.heap.size) (by repeat' first | with_reducible exact Below.refl _ _ | with_reducible assumption | with_reducible refine Free.Grow.alloc ?_ _ | with_reducible refine Free.Grow.setCell ?_ (by first | omega | (simp; done) | (simp; omega)) _ | with_reducible refine Free.Grow.drew ?_ | with_reducible refine Free.Grow.trans ?_ (by assumption)) hbw) (by first | omega | (simp; done) | (simp; omega))).mono ?_; rintro e w3 ⟨rfl, hb3⟩; have hc3 := (Free.cells_of hb3).1; have hf3 := (Free.cells_of hb3).2; have hz3 := hb3.size; (try simp only [World.size_alloc, World.size_setCell, World.size_drew] at hz3); (try (have : w.heap.size < w3.heap.size := (by omega))); (try (have : w.heap.size < w3.heap.size + 1 := (by omega))); (try (have : w.heap.size < w3.heap.size + 1 + 1 := (by omega))); (try (have : w.heap.size + 1 < w3.heap.size := (by omega))); (try (have : w.heap.size + 1 < w3.heap.size + 1 := (by omega))); (try (have : w.heap.size + 1 < w3.heap.size + 1 + 1 := (by omega))); (try (have : w.heap.size + 1 + 1 < w3.heap.size := (by omega))); (try (have : w.heap.size + 1 + 1 < w3.heap.size + 1 := (by omega))); (try (have : w.heap.size + 1 + 1 < w3.heap.size + 1 + 1 := (by omega))); (try (have : w.heap.size + 1 + 1 + 1 < w3.heap.size := (by omega))); (try (have : w.heap.size + 1 + 1 + 1 < w3.heap.size + 1 := (by omega))); (try (have : w.heap.size + 1 + 1 + 1 < w3.heap.size + 1 + 1 := (by omega))))
    first | (go_ret2; exact HR.out _ (by repeat' first | with_reducible exact Below.refl _ _ | with_reducible assumption | with_reducible refine Free.Grow.alloc ?_ _ | with_reducible refine Free.Grow.setCell ?_ (by first | omega | (simp; done) | (simp; omega)) _ | with_reducible refine Free.Grow.drew ?_ | with_reducible refine Free.Grow.trans ?_ (by assumption))) | exact HR.out _ (by repeat' first | with_reducible exact Below.refl _ _ | with_reducible assumption | with_reducible refine Free.Grow.alloc ?_ _ | with_reducible refine Free.Grow.setCell ?_ (by first | omega | (simp; done) | (simp; omega)) _ | with_reducible refine Free.Grow.drew ?_ | with_reducible refine Free.Grow.trans ?_ (by assumption))

set_option maxRecDepth 100000 in
set_option maxHeartbeats 2000000 in
theorem rCheckNearest_ord (nm : ByteArray) (bd x y z lo hi wi : Int) (b off cap : Nat) (l : List St) (w : World) (hR : Right bd l) (hS : HasSts w b off l) (hbw : b < w.heap.size)
    (h1 : rngB lo (frstT l) (lastT l) = true) (h2 : rngB hi (frstT l) (lastT l) = true) (h3 : rngB wi (frstT l) (lastT l) = true) (hlt : hi < lo) :
    Calls Try.prog 32 #[obV nm bd (some ⟨b, off, none⟩) l.length cap, v3 x y z, cnV lo hi wi] w fun e w' => e = .returned (.tuple #[.int .i64 0, .int .i64 9]) ∧ Below w.heap.size w w' := by
  have hn2 := hR.n2
  have hn40 := hR.n40
  have HH := Lib.hid (fun t w' (hS' : HasSts w' b off l) (hb' : b < w'.heap.size) => Has_any nm bd t b off cap l w' hS' hb' (by omega) (by omega))
  have HM := Lib.hid hS
  clear hS hR
  generalize frstT l = F at *
  generalize lastT l = L at *
  refine Calls.made fun R HR => ?_
  go_enter Try.func32, Try.ntmps32
  go_wp2_with (go_at_call 59; refine (HH.out _ _ (HM.out.below (B := w.heap.size) (by repeat' first | with_reducible exact Below.refl _ _ | with_reducible assumption | with_reducible refine Free.Grow.alloc ?_ _ | with_reducible refine Free.Grow.setCell ?_ (by first | omega | (simp; done) | (simp; omega)) _ | with_reducible refine Free.Grow.drew ?_ | with_reducible refine Free.Grow.trans ?_ (by assumption)) hbw) (by first | omega | (simp; done) | (simp; omega))).mono ?_; rintro e w3 ⟨rfl, hb3⟩; have hc3 := (Free.cells_of hb3).1; have hf3 := (Free.cells_of hb3).2; have hz3 := hb3.size; (try simp only [World.size_alloc, World.size_setCell, World.size_drew] at hz3); (try (have : w.heap.size < w3.heap.size := (by omega))); (try (have : w.heap.size < w3.heap.size + 1 := (by omega))); (try (have : w.heap.size < w3.heap.size + 1 + 1 := (by omega))); (try (have : w.heap.size + 1 < w3.heap.size := (by omega))); (try (have : w.heap.size + 1 < w3.heap.size + 1 := (by omega))); (try (have : w.heap.size + 1 < w3.heap.size + 1 + 1 := (by omega))); (try (have : w.heap.size + 1 + 1 < w3.heap.size := (by omega))); (try (have : w.heap.size + 1 + 1 < w3.heap.size + 1 := (by omega))); (try (have : w.heap.size + 1 + 1 < w3.heap.size + 1 + 1 := (by omega))); (try (have : w.heap.size + 1 + 1 + 1 < w3.heap.size := (by omega))); (try (have : w.heap.size + 1 + 1 + 1 < w3.heap.size + 1 := (by omega))); (try (have : w.heap.size + 1 + 1 + 1 < w3.heap.size + 1 + 1 := (by omega))))
  first | (go_ret2; exact HR.out _ (by repeat' first | with_reducible exact Below.refl _ _ | with_reducible assumption | with_reducible refine Free.Grow.alloc ?_ _ | with_reducible refine Free.Grow.setCell ?_ (by first | omega | (simp; done) | (simp; omega)) _ | with_reducible refine Free.Grow.drew ?_ | with_reducible refine Free.Grow.trans ?_ (by assumption))) | exact HR.out _ (by repeat' first | with_reducible exact Below.refl _ _ | with_reducible assumption | with_reducible refine Free.Grow.alloc ?_ _ | with_reducible refine Free.Grow.setCell ?_ (by first | omega | (simp; done) | (simp; omega)) _ | with_reducible refine Free.Grow.drew ?_ | with_reducible refine Free.Grow.trans ?_ (by assumption))

set_option maxRecDepth 100000 in
set_option maxHeartbeats 4000000 in
theorem rCheckNearest_loop (nm : ByteArray) (bd x y z lo hi wi : Int) (b off cap : Nat) (l : List St) (w : World) (hR : Right bd l) (hS : HasSts w b off l) (hbw : b < w.heap.size)
    (hx : -100000000 ≤ x ∧ x ≤ 100000000) (hy : -100000000 ≤ y ∧ y ≤ 100000000) (hz : -100000000 ≤ z ∧ z ≤ 100000000)
    (h1 : rngB lo (frstT l) (lastT l) = true) (h2 : rngB hi (frstT l) (lastT l) = true) (h3 : rngB wi (frstT l) (lastT l) = true) (hlt : ¬ hi < lo) :
    Calls Try.prog 32 #[obV nm bd (some ⟨b, off, none⟩) l.length cap, v3 x y z, cnV lo hi wi] w fun e w' => e = .returned (.tuple #[.int .i64 (cnR bd l x y z lo hi wi).1, .int .i64 (cnR bd l x y z lo hi wi).2]) ∧ Below w.heap.size w w' := by
  have hn2 := hR.n2
  have hn40 := hR.n40
  have hle := hR.le 0 (l.length - 1) (by omega) (by omega)
  have hfl : frstT l ≤ lastT l := hle
  have ht0 : 0 ≤ frstT l := (hR.ok 0 (by omega)).t0
  have ht1 : lastT l ≤ 1000000000 := (hR.ok (l.length - 1) (by omega)).t1
  have HNN : Hid ((nTicks l : Int) = lastT l + 1 - frstT l) := by unfold nTicks; show _ = _; omega
  obtain ⟨r10, r11⟩ := rngB_true.1 h1
  obtain ⟨r20, r21⟩ := rngB_true.1 h2
  obtain ⟨r30, r31⟩ := rngB_true.1 h3
  have HH := Lib.hid (fun t w' (hS' : HasSts w' b off l) (hb' : b < w'.heap.size) => Has_any nm bd t b off cap l w' hS' hb' (by omega) (by omega))
  have HF := Lib.hid (fun w' (hS' : HasSts w' b off l) (hb' : b < w'.heap.size) => First_any nm bd b off cap l w' hS' hb' (by omega) (by omega))
  have HL := Lib.hid (fun w' (hS' : HasSts w' b off l) (hb' : b < w'.heap.size) => Last_any nm bd b off cap l w' hS' hb' (by omega) (by omega))
  have HBw := Lib.hid (fun w' (hS' : HasSts w' b off l) (hb' : b < w'.heap.size) => rBoxAt_any nm bd wi b off cap l w' hR r30 r31 hS' hb')
  rw [(same_place hR r30 r31).2] at HBw
  have HSw := Lib.hid (fun w => rSquares_any (bx bd l wi) x y z w (bx_ok hR r30 r31) (by omega) (by omega) (by omega))
  have HBk := Lib.hid (fun (k : Nat) (hk : k < nTicks l) w' (hS' : HasSts w' b off l) (hb' : b < w'.heap.size) => (same_place hR (t := frstT l + k) (by omega) (by have := HNN.out; omega)).2 ▸ rBoxAt_any nm bd (frstT l + k) b off cap l w' hR (by omega) (by have := HNN.out; omega) hS' hb')
  have HSk := Lib.hid (fun (k : Nat) (hk : k < nTicks l) w => rSquares_any (bx bd l (frstT l + k)) x y z w (bx_ok hR (by omega) (by have := HNN.out; omega)) (by omega) (by omega) (by omega))
  have HCR : cnR bd l x y z lo hi wi = if cnAny (cnBad bd l x y z lo hi (sqHi (bx bd l wi) x y z)) (frstT l) (nTicks l) = true then (0, 22) else (hi - lo + 1, 0) := by
    unfold cnR; rw [if_neg (by rw [h1, h2, h3]; simp), if_neg hlt]
  rw [HCR]
  have HM := Lib.hid hS
  have HBad : Hid (∀ t, cnBad bd l x y z lo hi (sqHi (bx bd l wi) x y z) t = (!rngB t lo hi && decide (sqLo (bx bd l t) x y z ≤ sqHi (bx bd l wi) x y z))) := fun t => rfl
  clear hS hR HCR hle
  generalize cnBad bd l x y z lo hi (sqHi (bx bd l wi) x y z) = bad at *
  generalize sqHi (bx bd l wi) x y z = most at *
  generalize nTicks l = N at *
  refine Calls.made fun R HR => ?_
  have HRF : Hid (cnAny bad (frstT l) N = false → ∀ w', Below w.heap.size w w' → R (.returned (.tuple #[.int .i64 (hi - lo + 1), .int .i64 0])) w') := fun h w' hb => by have := HR.out w' hb; rw [h] at this; exact this
  have HRT : Hid (cnAny bad (frstT l) N = true → ∀ w', Below w.heap.size w w' → R (.returned (.tuple #[.int .i64 0, .int .i64 22])) w') := fun h w' hb => by have := HR.out w' hb; rw [h] at this; exact this
  clear HR
  go_enter Try.func32, Try.ntmps32
  go_wp2_with (go_at_call 59; refine (HH.out _ _ (HM.out.below (B := w.heap.size) (by repeat' first | with_reducible exact Below.refl _ _ | with_reducible assumption | with_reducible refine Free.Grow.alloc ?_ _ | with_reducible refine Free.Grow.setCell ?_ (by first | omega | (simp; done) | (simp; omega)) _ | with_reducible refine Free.Grow.drew ?_ | with_reducible refine Free.Grow.trans ?_ (by assumption)) hbw) (by first | omega | (simp; done) | (simp; omega))).mono ?_; rintro e w3 ⟨rfl, hb3⟩; have hc3 := (Free.cells_of hb3).1; have hf3 := (Free.cells_of hb3).2; have hz3 := hb3.size; (try simp only [World.size_alloc, World.size_setCell, World.size_drew] at hz3); (try (have : w.heap.size < w3.heap.size := (by omega))); (try (have : w.heap.size < w3.heap.size + 1 := (by omega))); (try (have : w.heap.size < w3.heap.size + 1 + 1 := (by omega))); (try (have : w.heap.size + 1 < w3.heap.size := (by omega))); (try (have : w.heap.size + 1 < w3.heap.size + 1 := (by omega))); (try (have : w.heap.size + 1 < w3.heap.size + 1 + 1 := (by omega))); (try (have : w.heap.size + 1 + 1 < w3.heap.size := (by omega))); (try (have : w.heap.size + 1 + 1 < w3.heap.size + 1 := (by omega))); (try (have : w.heap.size + 1 + 1 < w3.heap.size + 1 + 1 := (by omega))); (try (have : w.heap.size + 1 + 1 + 1 < w3.heap.size := (by omega))); (try (have : w.heap.size + 1 + 1 + 1 < w3.heap.size + 1 := (by omega))); (try (have : w.heap.size + 1 + 1 + 1 < w3.heap.size + 1 + 1 := (by omega))))
  refine Free.wp_region 8 #[0, 0, 2, 7, 0, 31, 63, 127] (by kernel_rfl) (by kernel_rfl) ?_
  simp only [List.take_succ_cons, List.take_zero]
  iterate 8
    refine Free.E.q (by rfl) ?_
    apply Exists.intro
    refine ⟨fun u w' hc hb => ?_, ?_⟩
    go_simp
    (try go_ints); (try simp only [Ob.ite_imx, Ob.ite_imn]); first | exact rfl | (go_simp; exact rfl) | ((go_at_call 30; with_reducible exact HBw.out _ (HM.out.below (B := w.heap.size) (by repeat' first | with_reducible exact Below.refl _ _ | with_reducible assumption | with_reducible refine Free.Grow.alloc ?_ _ | with_reducible refine Free.Grow.setCell ?_ (by first | omega | (simp; done) | (simp; omega)) _ | with_reducible refine Free.Grow.drew ?_ | with_reducible refine Free.Grow.trans ?_ (by assumption)) hbw) (by have := hb.size; omega))) | ((go_at_call 41; with_reducible exact HSw.out _)) | (simp only [↓IntWalk.iteOmega]; (try go_simp); exact rfl)
    simp only [Act.put, List.setIfInBounds_toArray, List.set_cons_zero, List.set_cons_succ, List.nil_append, List.cons_append]
  refine Free.E.nil (fun u w4 S hF => ?_)
  have hb4 := hF.below
  clear hF
  have hc4 := (Free.cells_of hb4).1
  have hf4 := (Free.cells_of hb4).2
  have hz4 := hb4.size
  try simp only [World.size_alloc, World.size_setCell, World.size_drew] at hz4
  (try (have : w.heap.size < w4.heap.size := (by omega)))
  (try (have : w.heap.size < w4.heap.size + 1 := (by omega)))
  (try (have : w.heap.size < w4.heap.size + 1 + 1 := (by omega)))
  (try (have : w.heap.size + 1 < w4.heap.size := (by omega)))
  (try (have : w.heap.size + 1 < w4.heap.size + 1 := (by omega)))
  (try (have : w.heap.size + 1 < w4.heap.size + 1 + 1 := (by omega)))
  (try (have : w.heap.size + 1 + 1 < w4.heap.size := (by omega)))
  (try (have : w.heap.size + 1 + 1 < w4.heap.size + 1 := (by omega)))
  (try (have : w.heap.size + 1 + 1 < w4.heap.size + 1 + 1 := (by omega)))
  (try (have : w.heap.size + 1 + 1 + 1 < w4.heap.size := (by omega)))
  (try (have : w.heap.size + 1 + 1 + 1 < w4.heap.size + 1 := (by omega)))
  (try (have : w.heap.size + 1 + 1 + 1 < w4.heap.size + 1 + 1 := (by omega)))
  (try (have : w3.heap.size < w4.heap.size := (by omega)))
  (try (have : w3.heap.size < w4.heap.size + 1 := (by omega)))
  (try (have : w3.heap.size < w4.heap.size + 1 + 1 := (by omega)))
  (try (have : w3.heap.size + 1 < w4.heap.size := (by omega)))
  (try (have : w3.heap.size + 1 < w4.heap.size + 1 := (by omega)))
  (try (have : w3.heap.size + 1 < w4.heap.size + 1 + 1 := (by omega)))
  (try (have : w3.heap.size + 1 + 1 < w4.heap.size := (by omega)))
  (try (have : w3.heap.size + 1 + 1 < w4.heap.size + 1 := (by omega)))
  (try (have : w3.heap.size + 1 + 1 < w4.heap.size + 1 + 1 := (by omega)))
  (try (have : w3.heap.size + 1 + 1 + 1 < w4.heap.size := (by omega)))
  (try (have : w3.heap.size + 1 + 1 + 1 < w4.heap.size + 1 := (by omega)))
  (try (have : w3.heap.size + 1 + 1 + 1 < w4.heap.size + 1 + 1 := (by omega)))
  simp only [List.drop_succ_cons, List.drop_zero, List.drop_nil]
  go_wp2_with (go_at_call 33; refine (HF.out _ (HM.out.below (B := w.heap.size) (by repeat' first | with_reducible exact Below.refl _ _ | with_reducible assumption | with_reducible refine Free.Grow.alloc ?_ _ | with_reducible refine Free.Grow.setCell ?_ (by first | omega | (simp; done) | (simp; omega)) _ | with_reducible refine Free.Grow.drew ?_ | with_reducible refine Free.Grow.trans ?_ (by assumption)) hbw) (by first | omega | (simp; done) | (simp; omega))).mono ?_; rintro e w5 ⟨rfl, hb5⟩; have hc5 := (Free.cells_of hb5).1; have hf5 := (Free.cells_of hb5).2; have hz5 := hb5.size; (try simp only [World.size_alloc, World.size_setCell, World.size_drew] at hz5); (try (have : w.heap.size < w5.heap.size := (by omega))); (try (have : w.heap.size < w5.heap.size + 1 := (by omega))); (try (have : w.heap.size < w5.heap.size + 1 + 1 := (by omega))); (try (have : w.heap.size + 1 < w5.heap.size := (by omega))); (try (have : w.heap.size + 1 < w5.heap.size + 1 := (by omega))); (try (have : w.heap.size + 1 < w5.heap.size + 1 + 1 := (by omega))); (try (have : w.heap.size + 1 + 1 < w5.heap.size := (by omega))); (try (have : w.heap.size + 1 + 1 < w5.heap.size + 1 := (by omega))); (try (have : w.heap.size + 1 + 1 < w5.heap.size + 1 + 1 := (by omega))); (try (have : w.heap.size + 1 + 1 + 1 < w5.heap.size := (by omega))); (try (have : w.heap.size + 1 + 1 + 1 < w5.heap.size + 1 := (by omega))); (try (have : w.heap.size + 1 + 1 + 1 < w5.heap.size + 1 + 1 := (by omega))); (try (have : w3.heap.size < w5.heap.size := (by omega))); (try (have : w3.heap.size < w5.heap.size + 1 := (by omega))); (try (have : w3.heap.size < w5.heap.size + 1 + 1 := (by omega))); (try (have : w3.heap.size + 1 < w5.heap.size := (by omega))); (try (have : w3.heap.size + 1 < w5.heap.size + 1 := (by omega))); (try (have : w3.heap.size + 1 < w5.heap.size + 1 + 1 := (by omega))); (try (have : w3.heap.size + 1 + 1 < w5.heap.size := (by omega))); (try (have : w3.heap.size + 1 + 1 < w5.heap.size + 1 := (by omega))); (try (have : w3.heap.size + 1 + 1 < w5.heap.size + 1 + 1 := (by omega))); (try (have : w3.heap.size + 1 + 1 + 1 < w5.heap.size := (by omega))); (try (have : w3.heap.size + 1 + 1 + 1 < w5.heap.size + 1 := (by omega))); (try (have : w3.heap.size + 1 + 1 + 1 < w5.heap.size + 1 + 1 := (by omega))); (try (have : w4.heap.size < w5.heap.size := (by omega))); (try (have : w4.heap.size < w5.heap.size + 1 := (by omega))); (try (have : w4.heap.size < w5.heap.size + 1 + 1 := (by omega))); (try (have : w4.heap.size + 1 < w5.heap.size := (by omega))); (try (have : w4.heap.size + 1 < w5.heap.size + 1 := (by omega))); (try (have : w4.heap.size + 1 < w5.heap.size + 1 + 1 := (by omega))); (try (have : w4.heap.size + 1 + 1 < w5.heap.size := (by omega))); (try (have : w4.heap.size + 1 + 1 < w5.heap.size + 1 := (by omega))); (try (have : w4.heap.size + 1 + 1 < w5.heap.size + 1 + 1 := (by omega))); (try (have : w4.heap.size + 1 + 1 + 1 < w5.heap.size := (by omega))); (try (have : w4.heap.size + 1 + 1 + 1 < w5.heap.size + 1 := (by omega))); (try (have : w4.heap.size + 1 + 1 + 1 < w5.heap.size + 1 + 1 := (by omega))))
  have s3 : Hid (w5.heap[w.heap.size]? = some (.cells #[.string nm, .int .i64 bd, .slice (some ⟨b, off, none⟩) l.length cap] 24 (0, 0))) := by unfold Hid; repeat' first | with_reducible assumption | with_reducible exact Free.blk_new _ (by first | rfl | (simp; done)) | with_reducible refine Free.blk_alloc_old ?_ | with_reducible refine Free.blk_drew ?_ | with_reducible refine Free.blk_setCell_far ?_ (by first | omega | (simp; done) | (simp; omega)) _ | with_reducible apply Free.blk_setCell_to | (show Array.setIfInBounds _ _ _ = _; first | exact rfl | (simp; done)) | with_reducible refine Free.blk_below ?_ (by assumption)
  have s4 : Hid (w5.heap[w.heap.size + 1]? = some (.cells #[.int .i64 x, .int .i64 y, .int .i64 z] 26 (0, 0))) := by unfold Hid; repeat' first | with_reducible assumption | with_reducible exact Free.blk_new _ (by first | rfl | (simp; done)) | with_reducible refine Free.blk_alloc_old ?_ | with_reducible refine Free.blk_drew ?_ | with_reducible refine Free.blk_setCell_far ?_ (by first | omega | (simp; done) | (simp; omega)) _ | with_reducible apply Free.blk_setCell_to | (show Array.setIfInBounds _ _ _ = _; first | exact rfl | (simp; done)) | with_reducible refine Free.blk_below ?_ (by assumption)
  have s5 : Hid (w5.heap[w.heap.size + 1 + 1]? = some (.cells #[.int .i64 lo, .int .i64 hi, .int .i64 wi] 58 (0, 0))) := by unfold Hid; repeat' first | with_reducible assumption | with_reducible exact Free.blk_new _ (by first | rfl | (simp; done)) | with_reducible refine Free.blk_alloc_old ?_ | with_reducible refine Free.blk_drew ?_ | with_reducible refine Free.blk_setCell_far ?_ (by first | omega | (simp; done) | (simp; omega)) _ | with_reducible apply Free.blk_setCell_to | (show Array.setIfInBounds _ _ _ = _; first | exact rfl | (simp; done)) | with_reducible refine Free.blk_below ?_ (by assumption)
  have sB : Hid (Below w.heap.size w w5) := by unfold Hid; repeat' first | with_reducible exact Below.refl _ _ | with_reducible assumption | with_reducible refine Free.Grow.alloc ?_ _ | with_reducible refine Free.Grow.setCell ?_ (by first | omega | (simp; done) | (simp; omega)) _ | with_reducible refine Free.Grow.drew ?_ | with_reducible refine Free.Grow.trans ?_ (by assumption)
  go_loopw [9] (fun i wr => ∃ k : Nat, k ≤ N ∧ i = .int .i64 (frstT l + k) ∧ Hid (Below w.heap.size w wr) ∧ Hid (wr.heap[w.heap.size]? = some (.cells #[.string nm, .int .i64 bd, .slice (some ⟨b, off, none⟩) l.length cap] 24 (0, 0))) ∧
      Hid (wr.heap[w.heap.size + 1]? = some (.cells #[.int .i64 x, .int .i64 y, .int .i64 z] 26 (0, 0))) ∧ Hid (wr.heap[w.heap.size + 1 + 1]? = some (.cells #[.int .i64 lo, .int .i64 hi, .int .i64 wi] 58 (0, 0))) ∧ Hid (∀ j, j < k → bad (frstT l + j) = false)) (fun i _ => (lastT l + 1 - intOf i).toNat)
  case atStart => exact ⟨0, Nat.zero_le _, by simp, sB, s3, s4, s5, fun j hj => by omega⟩
  case round =>
    obtain ⟨k, hk, rfl, HB, HK3, HK4, HK5, HALL⟩ := hrel
    clear s3 s4 s5 sB
    have hbr := HB.out
    have k3 := HK3.out
    have k4 := HK4.out
    have k5 := HK5.out
    have c3 := Free.cell_of_blk k3
    have c4 := Free.cell_of_blk k4
    have c5 := Free.cell_of_blk k5
    have l3 := Free.lt_of_blk k3
    have l4 := Free.lt_of_blk k4
    have l5 := Free.lt_of_blk k5
    have hwr := hbr.size
    clear HK3 HK4 HK5
    by_cases hlt2 : k < N
    · have ht : frstT l + k ≤ lastT l := by have := HNN.out; omega
      have HBt := Lib.hid (HBad.out (frstT l + k))
      have HWt := Lib.hid (fun w => rWithin_any (frstT l + k) lo hi w)
      have HBk' := Lib.hid (HBk.out k hlt2)
      have HSk' := Lib.hid (HSk.out k hlt2)
      have HT := Lib.hid (fun h => @cnAny_true bad (frstT l) N k hlt2 h)
      cases hin : rngB (frstT l + k) lo hi with
      | true =>
        rw [hin] at HBt HWt
        have HF2 : Hid (∀ j, j < k + 1 → bad (frstT l + j) = false) := fun j hj => by
          by_cases e : j = k
          · subst e; have := HBt.out; simpa using this
          · exact HALL.out j (by omega)
        clear hin HBt
        go_wp2_with (go_at_call 34; refine (HL.out _ (HM.out.below (B := w.heap.size) (by repeat' first | with_reducible exact Below.refl _ _ | with_reducible assumption | with_reducible refine Free.Grow.alloc ?_ _ | with_reducible refine Free.Grow.setCell ?_ (by first | omega | (simp; done) | (simp; omega)) _ | with_reducible refine Free.Grow.drew ?_ | with_reducible refine Free.Grow.trans ?_ (by assumption)) hbw) (by first | omega | (simp; done) | (simp; omega))).mono ?_; rintro e w6 ⟨rfl, hb6⟩; have hc6 := (Free.cells_of hb6).1; have hf6 := (Free.cells_of hb6).2; have hz6 := hb6.size; (try simp only [World.size_alloc, World.size_setCell, World.size_drew] at hz6); (try (have : w.heap.size < w6.heap.size := (by omega))); (try (have : w.heap.size < w6.heap.size + 1 := (by omega))); (try (have : w.heap.size < w6.heap.size + 1 + 1 := (by omega))); (try (have : w.heap.size + 1 < w6.heap.size := (by omega))); (try (have : w.heap.size + 1 < w6.heap.size + 1 := (by omega))); (try (have : w.heap.size + 1 < w6.heap.size + 1 + 1 := (by omega))); (try (have : w.heap.size + 1 + 1 < w6.heap.size := (by omega))); (try (have : w.heap.size + 1 + 1 < w6.heap.size + 1 := (by omega))); (try (have : w.heap.size + 1 + 1 < w6.heap.size + 1 + 1 := (by omega))); (try (have : w.heap.size + 1 + 1 + 1 < w6.heap.size := (by omega))); (try (have : w.heap.size + 1 + 1 + 1 < w6.heap.size + 1 := (by omega))); (try (have : w.heap.size + 1 + 1 + 1 < w6.heap.size + 1 + 1 := (by omega))); (try (have : wr.heap.size < w6.heap.size := (by omega))); (try (have : wr.heap.size < w6.heap.size + 1 := (by omega))); (try (have : wr.heap.size < w6.heap.size + 1 + 1 := (by omega))); (try (have : wr.heap.size + 1 < w6.heap.size := (by omega))); (try (have : wr.heap.size + 1 < w6.heap.size + 1 := (by omega))); (try (have : wr.heap.size + 1 < w6.heap.size + 1 + 1 := (by omega))); (try (have : wr.heap.size + 1 + 1 < w6.heap.size := (by omega))); (try (have : wr.heap.size + 1 + 1 < w6.heap.size + 1 := (by omega))); (try (have : wr.heap.size + 1 + 1 < w6.heap.size + 1 + 1 := (by omega))); (try (have : wr.heap.size + 1 + 1 + 1 < w6.heap.size := (by omega))); (try (have : wr.heap.size + 1 + 1 + 1 < w6.heap.size + 1 := (by omega))); (try (have : wr.heap.size + 1 + 1 + 1 < w6.heap.size + 1 + 1 := (by omega))))
        refine Free.wp_region 19 #[0, 0, 2, 6, 0, 16, 48, 127, 255, 511, 1023, 1023, 4095, 1023, 16383, 32767, 1023, 131071, 262143] (by kernel_rfl) (by kernel_rfl) ?_
        simp only [List.take_succ_cons, List.take_zero]
        iterate 10
          refine Free.E.q (by rfl) ?_
          apply Exists.intro
          refine ⟨fun u w' hc hb => ?_, ?_⟩
          go_simp
          (try go_ints); (try simp only [Ob.ite_imx, Ob.ite_imn]); first | exact rfl | (go_simp; exact rfl) | ((go_at_call 21; with_reducible exact Free.Calls.grow (HWt.out _))) | (simp only [↓IntWalk.iteOmega]; (try go_simp); exact rfl)
          simp only [Act.put, List.setIfInBounds_toArray, List.set_cons_zero, List.set_cons_succ, List.nil_append, List.cons_append]
        iterate 8
          first
            | (refine Free.E.no ?_ ?_
               (intro _; rfl)
               simp only [Act.put, List.setIfInBounds_toArray, List.set_cons_zero, List.set_cons_succ, List.nil_append, List.cons_append])
            | (refine Free.E.qy ?_ ?_
               (intro _; rfl)
               apply Exists.intro
               refine ⟨fun u w' hc hb => ?_, ?_⟩
               go_simp
               (try go_ints); (try simp only [Ob.ite_imx, Ob.ite_imn]); first | exact rfl | (go_simp; exact rfl) | ((go_at_call 21; with_reducible exact Free.Calls.grow (HWt.out _))) | (simp only [↓IntWalk.iteOmega]; (try go_simp); exact rfl)
               simp only [Act.put, List.setIfInBounds_toArray, List.set_cons_zero, List.set_cons_succ, List.nil_append, List.cons_append])
        iterate 1
          refine Free.E.q (by rfl) ?_
          apply Exists.intro
          refine ⟨fun u w' hc hb => ?_, ?_⟩
          go_simp
          (try go_ints); (try simp only [Ob.ite_imx, Ob.ite_imn]); first | exact rfl | (go_simp; exact rfl) | ((go_at_call 21; with_reducible exact Free.Calls.grow (HWt.out _))) | (simp only [↓IntWalk.iteOmega]; (try go_simp); exact rfl)
          simp only [Act.put, List.setIfInBounds_toArray, List.set_cons_zero, List.set_cons_succ, List.nil_append, List.cons_append]
        refine Free.E.nil (fun u w7 S hF => ?_)
        have hb7 := hF.below
        clear hF
        have hc7 := (Free.cells_of hb7).1
        have hf7 := (Free.cells_of hb7).2
        have hz7 := hb7.size
        try simp only [World.size_alloc, World.size_setCell, World.size_drew] at hz7
        (try (have : w.heap.size < w7.heap.size := (by omega)))
        (try (have : w.heap.size < w7.heap.size + 1 := (by omega)))
        (try (have : w.heap.size < w7.heap.size + 1 + 1 := (by omega)))
        (try (have : w.heap.size + 1 < w7.heap.size := (by omega)))
        (try (have : w.heap.size + 1 < w7.heap.size + 1 := (by omega)))
        (try (have : w.heap.size + 1 < w7.heap.size + 1 + 1 := (by omega)))
        (try (have : w.heap.size + 1 + 1 < w7.heap.size := (by omega)))
        (try (have : w.heap.size + 1 + 1 < w7.heap.size + 1 := (by omega)))
        (try (have : w.heap.size + 1 + 1 < w7.heap.size + 1 + 1 := (by omega)))
        (try (have : w.heap.size + 1 + 1 + 1 < w7.heap.size := (by omega)))
        (try (have : w.heap.size + 1 + 1 + 1 < w7.heap.size + 1 := (by omega)))
        (try (have : w.heap.size + 1 + 1 + 1 < w7.heap.size + 1 + 1 := (by omega)))
        (try (have : wr.heap.size < w7.heap.size := (by omega)))
        (try (have : wr.heap.size < w7.heap.size + 1 := (by omega)))
        (try (have : wr.heap.size < w7.heap.size + 1 + 1 := (by omega)))
        (try (have : wr.heap.size + 1 < w7.heap.size := (by omega)))
        (try (have : wr.heap.size + 1 < w7.heap.size + 1 := (by omega)))
        (try (have : wr.heap.size + 1 < w7.heap.size + 1 + 1 := (by omega)))
        (try (have : wr.heap.size + 1 + 1 < w7.heap.size := (by omega)))
        (try (have : wr.heap.size + 1 + 1 < w7.heap.size + 1 := (by omega)))
        (try (have : wr.heap.size + 1 + 1 < w7.heap.size + 1 + 1 := (by omega)))
        (try (have : wr.heap.size + 1 + 1 + 1 < w7.heap.size := (by omega)))
        (try (have : wr.heap.size + 1 + 1 + 1 < w7.heap.size + 1 := (by omega)))
        (try (have : wr.heap.size + 1 + 1 + 1 < w7.heap.size + 1 + 1 := (by omega)))
        (try (have : w6.heap.size < w7.heap.size := (by omega)))
        (try (have : w6.heap.size < w7.heap.size + 1 := (by omega)))
        (try (have : w6.heap.size < w7.heap.size + 1 + 1 := (by omega)))
        (try (have : w6.heap.size + 1 < w7.heap.size := (by omega)))
        (try (have : w6.heap.size + 1 < w7.heap.size + 1 := (by omega)))
        (try (have : w6.heap.size + 1 < w7.heap.size + 1 + 1 := (by omega)))
        (try (have : w6.heap.size + 1 + 1 < w7.heap.size := (by omega)))
        (try (have : w6.heap.size + 1 + 1 < w7.heap.size + 1 := (by omega)))
        (try (have : w6.heap.size + 1 + 1 < w7.heap.size + 1 + 1 := (by omega)))
        (try (have : w6.heap.size + 1 + 1 + 1 < w7.heap.size := (by omega)))
        (try (have : w6.heap.size + 1 + 1 + 1 < w7.heap.size + 1 := (by omega)))
        (try (have : w6.heap.size + 1 + 1 + 1 < w7.heap.size + 1 + 1 := (by omega)))
        simp only [List.drop_succ_cons, List.drop_zero, List.drop_nil]
        go_wp2
        go_roundw
        case rel => exact ⟨k + 1, by omega, by go_num, Lib.hid (by repeat' first | with_reducible exact Below.refl _ _ | with_reducible assumption | with_reducible refine Free.Grow.alloc ?_ _ | with_reducible refine Free.Grow.setCell ?_ (by first | omega | (simp; done) | (simp; omega)) _ | with_reducible refine Free.Grow.drew ?_ | with_reducible refine Free.Grow.trans ?_ (by assumption)), Lib.hid (by repeat' first | with_reducible assumption | with_reducible exact Free.blk_new _ (by first | rfl | (simp; done)) | with_reducible refine Free.blk_alloc_old ?_ | with_reducible refine Free.blk_drew ?_ | with_reducible refine Free.blk_setCell_far ?_ (by first | omega | (simp; done) | (simp; omega)) _ | with_reducible apply Free.blk_setCell_to | (show Array.setIfInBounds _ _ _ = _; first | exact rfl | (simp; done)) | with_reducible refine Free.blk_below ?_ (by assumption)), Lib.hid (by repeat' first | with_reducible assumption | with_reducible exact Free.blk_new _ (by first | rfl | (simp; done)) | with_reducible refine Free.blk_alloc_old ?_ | with_reducible refine Free.blk_drew ?_ | with_reducible refine Free.blk_setCell_far ?_ (by first | omega | (simp; done) | (simp; omega)) _ | with_reducible apply Free.blk_setCell_to | (show Array.setIfInBounds _ _ _ = _; first | exact rfl | (simp; done)) | with_reducible refine Free.blk_below ?_ (by assumption)), Lib.hid (by repeat' first | with_reducible assumption | with_reducible exact Free.blk_new _ (by first | rfl | (simp; done)) | with_reducible refine Free.blk_alloc_old ?_ | with_reducible refine Free.blk_drew ?_ | with_reducible refine Free.blk_setCell_far ?_ (by first | omega | (simp; done) | (simp; omega)) _ | with_reducible apply Free.blk_setCell_to | (show Array.setIfInBounds _ _ _ = _; first | exact rfl | (simp; done)) | with_reducible refine Free.blk_below ?_ (by assumption)), HF2⟩
        case measure => simp [intOf]; omega
      | false =>
        rw [hin] at HBt HWt
        generalize bx bd l (frstT l + k) = q at *
        by_cases hm : sqLo q x y z ≤ most
        · have HTT := Lib.hid (HRT.out (HT.out (by have := HBt.out; simpa [hm] using this)))
          have HM2 := Lib.hid hm
          clear hin HBt hm
          go_wp2_with (go_at_call 34; refine (HL.out _ (HM.out.below (B := w.heap.size) (by repeat' first | with_reducible exact Below.refl _ _ | with_reducible assumption | with_reducible refine Free.Grow.alloc ?_ _ | with_reducible refine Free.Grow.setCell ?_ (by first | omega | (simp; done) | (simp; omega)) _ | with_reducible refine Free.Grow.drew ?_ | with_reducible refine Free.Grow.trans ?_ (by assumption)) hbw) (by first | omega | (simp; done) | (simp; omega))).mono ?_; rintro e w6 ⟨rfl, hb6⟩; have hc6 := (Free.cells_of hb6).1; have hf6 := (Free.cells_of hb6).2; have hz6 := hb6.size; (try simp only [World.size_alloc, World.size_setCell, World.size_drew] at hz6); (try (have : w.heap.size < w6.heap.size := (by omega))); (try (have : w.heap.size < w6.heap.size + 1 := (by omega))); (try (have : w.heap.size < w6.heap.size + 1 + 1 := (by omega))); (try (have : w.heap.size + 1 < w6.heap.size := (by omega))); (try (have : w.heap.size + 1 < w6.heap.size + 1 := (by omega))); (try (have : w.heap.size + 1 < w6.heap.size + 1 + 1 := (by omega))); (try (have : w.heap.size + 1 + 1 < w6.heap.size := (by omega))); (try (have : w.heap.size + 1 + 1 < w6.heap.size + 1 := (by omega))); (try (have : w.heap.size + 1 + 1 < w6.heap.size + 1 + 1 := (by omega))); (try (have : w.heap.size + 1 + 1 + 1 < w6.heap.size := (by omega))); (try (have : w.heap.size + 1 + 1 + 1 < w6.heap.size + 1 := (by omega))); (try (have : w.heap.size + 1 + 1 + 1 < w6.heap.size + 1 + 1 := (by omega))); (try (have : wr.heap.size < w6.heap.size := (by omega))); (try (have : wr.heap.size < w6.heap.size + 1 := (by omega))); (try (have : wr.heap.size < w6.heap.size + 1 + 1 := (by omega))); (try (have : wr.heap.size + 1 < w6.heap.size := (by omega))); (try (have : wr.heap.size + 1 < w6.heap.size + 1 := (by omega))); (try (have : wr.heap.size + 1 < w6.heap.size + 1 + 1 := (by omega))); (try (have : wr.heap.size + 1 + 1 < w6.heap.size := (by omega))); (try (have : wr.heap.size + 1 + 1 < w6.heap.size + 1 := (by omega))); (try (have : wr.heap.size + 1 + 1 < w6.heap.size + 1 + 1 := (by omega))); (try (have : wr.heap.size + 1 + 1 + 1 < w6.heap.size := (by omega))); (try (have : wr.heap.size + 1 + 1 + 1 < w6.heap.size + 1 := (by omega))); (try (have : wr.heap.size + 1 + 1 + 1 < w6.heap.size + 1 + 1 := (by omega))))
          have hm := HM2.out
          refine Free.wp_region 19 #[0, 0, 2, 6, 0, 16, 48, 127, 255, 511, 1023, 1023, 4095, 1023, 16383, 32767, 1023, 131071, 262143] (by kernel_rfl) (by kernel_rfl) ?_
          simp only [List.take_succ_cons, List.take_zero]
          iterate 10
            refine Free.E.q (by rfl) ?_
            apply Exists.intro
            refine ⟨fun u w' hc hb => ?_, ?_⟩
            go_simp
            (try go_ints); (try simp only [Ob.ite_imx, Ob.ite_imn]); first | exact rfl | (go_simp; exact rfl) | ((go_at_call 21; with_reducible exact Free.Calls.grow (HWt.out _))) | ((go_at_call 30; with_reducible exact HBk'.out _ (HM.out.below (B := w.heap.size) (by repeat' first | with_reducible exact Below.refl _ _ | with_reducible assumption | with_reducible refine Free.Grow.alloc ?_ _ | with_reducible refine Free.Grow.setCell ?_ (by first | omega | (simp; done) | (simp; omega)) _ | with_reducible refine Free.Grow.drew ?_ | with_reducible refine Free.Grow.trans ?_ (by assumption)) hbw) (by have := hb.size; omega))) | ((go_at_call 41; with_reducible exact HSk'.out _)) | (simp only [↓IntWalk.iteOmega]; (try go_simp); exact rfl)
            simp only [Act.put, List.setIfInBounds_toArray, List.set_cons_zero, List.set_cons_succ, List.nil_append, List.cons_append]
          iterate 8
            first
              | (refine Free.E.no ?_ ?_
                 (intro _; rfl)
                 simp only [Act.put, List.setIfInBounds_toArray, List.set_cons_zero, List.set_cons_succ, List.nil_append, List.cons_append])
              | (refine Free.E.qy ?_ ?_
                 (intro _; rfl)
                 apply Exists.intro
                 refine ⟨fun u w' hc hb => ?_, ?_⟩
                 go_simp
                 (try go_ints); (try simp only [Ob.ite_imx, Ob.ite_imn]); first | exact rfl | (go_simp; exact rfl) | ((go_at_call 21; with_reducible exact Free.Calls.grow (HWt.out _))) | ((go_at_call 30; with_reducible exact HBk'.out _ (HM.out.below (B := w.heap.size) (by repeat' first | with_reducible exact Below.refl _ _ | with_reducible assumption | with_reducible refine Free.Grow.alloc ?_ _ | with_reducible refine Free.Grow.setCell ?_ (by first | omega | (simp; done) | (simp; omega)) _ | with_reducible refine Free.Grow.drew ?_ | with_reducible refine Free.Grow.trans ?_ (by assumption)) hbw) (by have := hb.size; omega))) | ((go_at_call 41; with_reducible exact HSk'.out _)) | (simp only [↓IntWalk.iteOmega]; (try go_simp); exact rfl)
                 simp only [Act.put, List.setIfInBounds_toArray, List.set_cons_zero, List.set_cons_succ, List.nil_append, List.cons_append])
          iterate 1
            refine Free.E.q (by rfl) ?_
            apply Exists.intro
            refine ⟨fun u w' hc hb => ?_, ?_⟩
            go_simp
            (try go_ints); (try simp only [Ob.ite_imx, Ob.ite_imn]); first | exact rfl | (go_simp; exact rfl) | ((go_at_call 21; with_reducible exact Free.Calls.grow (HWt.out _))) | ((go_at_call 30; with_reducible exact HBk'.out _ (HM.out.below (B := w.heap.size) (by repeat' first | with_reducible exact Below.refl _ _ | with_reducible assumption | with_reducible refine Free.Grow.alloc ?_ _ | with_reducible refine Free.Grow.setCell ?_ (by first | omega | (simp; done) | (simp; omega)) _ | with_reducible refine Free.Grow.drew ?_ | with_reducible refine Free.Grow.trans ?_ (by assumption)) hbw) (by have := hb.size; omega))) | ((go_at_call 41; with_reducible exact HSk'.out _)) | (simp only [↓IntWalk.iteOmega]; (try go_simp); exact rfl)
            simp only [Act.put, List.setIfInBounds_toArray, List.set_cons_zero, List.set_cons_succ, List.nil_append, List.cons_append]
          refine Free.E.nil (fun u w7 S hF => ?_)
          have hb7 := hF.below
          clear hF
          have hc7 := (Free.cells_of hb7).1
          have hf7 := (Free.cells_of hb7).2
          have hz7 := hb7.size
          try simp only [World.size_alloc, World.size_setCell, World.size_drew] at hz7
          (try (have : w.heap.size < w7.heap.size := (by omega)))
          (try (have : w.heap.size < w7.heap.size + 1 := (by omega)))
          (try (have : w.heap.size < w7.heap.size + 1 + 1 := (by omega)))
          (try (have : w.heap.size + 1 < w7.heap.size := (by omega)))
          (try (have : w.heap.size + 1 < w7.heap.size + 1 := (by omega)))
          (try (have : w.heap.size + 1 < w7.heap.size + 1 + 1 := (by omega)))
          (try (have : w.heap.size + 1 + 1 < w7.heap.size := (by omega)))
          (try (have : w.heap.size + 1 + 1 < w7.heap.size + 1 := (by omega)))
          (try (have : w.heap.size + 1 + 1 < w7.heap.size + 1 + 1 := (by omega)))
          (try (have : w.heap.size + 1 + 1 + 1 < w7.heap.size := (by omega)))
          (try (have : w.heap.size + 1 + 1 + 1 < w7.heap.size + 1 := (by omega)))
          (try (have : w.heap.size + 1 + 1 + 1 < w7.heap.size + 1 + 1 := (by omega)))
          (try (have : wr.heap.size < w7.heap.size := (by omega)))
          (try (have : wr.heap.size < w7.heap.size + 1 := (by omega)))
          (try (have : wr.heap.size < w7.heap.size + 1 + 1 := (by omega)))
          (try (have : wr.heap.size + 1 < w7.heap.size := (by omega)))
          (try (have : wr.heap.size + 1 < w7.heap.size + 1 := (by omega)))
          (try (have : wr.heap.size + 1 < w7.heap.size + 1 + 1 := (by omega)))
          (try (have : wr.heap.size + 1 + 1 < w7.heap.size := (by omega)))
          (try (have : wr.heap.size + 1 + 1 < w7.heap.size + 1 := (by omega)))
          (try (have : wr.heap.size + 1 + 1 < w7.heap.size + 1 + 1 := (by omega)))
          (try (have : wr.heap.size + 1 + 1 + 1 < w7.heap.size := (by omega)))
          (try (have : wr.heap.size + 1 + 1 + 1 < w7.heap.size + 1 := (by omega)))
          (try (have : wr.heap.size + 1 + 1 + 1 < w7.heap.size + 1 + 1 := (by omega)))
          (try (have : w6.heap.size < w7.heap.size := (by omega)))
          (try (have : w6.heap.size < w7.heap.size + 1 := (by omega)))
          (try (have : w6.heap.size < w7.heap.size + 1 + 1 := (by omega)))
          (try (have : w6.heap.size + 1 < w7.heap.size := (by omega)))
          (try (have : w6.heap.size + 1 < w7.heap.size + 1 := (by omega)))
          (try (have : w6.heap.size + 1 < w7.heap.size + 1 + 1 := (by omega)))
          (try (have : w6.heap.size + 1 + 1 < w7.heap.size := (by omega)))
          (try (have : w6.heap.size + 1 + 1 < w7.heap.size + 1 := (by omega)))
          (try (have : w6.heap.size + 1 + 1 < w7.heap.size + 1 + 1 := (by omega)))
          (try (have : w6.heap.size + 1 + 1 + 1 < w7.heap.size := (by omega)))
          (try (have : w6.heap.size + 1 + 1 + 1 < w7.heap.size + 1 := (by omega)))
          (try (have : w6.heap.size + 1 + 1 + 1 < w7.heap.size + 1 + 1 := (by omega)))
          simp only [List.drop_succ_cons, List.drop_zero, List.drop_nil]
          go_wp2
          first | (go_ret2; exact HTT.out _ (by repeat' first | with_reducible exact Below.refl _ _ | with_reducible assumption | with_reducible refine Free.Grow.alloc ?_ _ | with_reducible refine Free.Grow.setCell ?_ (by first | omega | (simp; done) | (simp; omega)) _ | with_reducible refine Free.Grow.drew ?_ | with_reducible refine Free.Grow.trans ?_ (by assumption))) | exact HTT.out _ (by repeat' first | with_reducible exact Below.refl _ _ | with_reducible assumption | with_reducible refine Free.Grow.alloc ?_ _ | with_reducible refine Free.Grow.setCell ?_ (by first | omega | (simp; done) | (simp; omega)) _ | with_reducible refine Free.Grow.drew ?_ | with_reducible refine Free.Grow.trans ?_ (by assumption))
        · have HF2 : Hid (∀ j, j < k + 1 → bad (frstT l + j) = false) := fun j hj => by
            by_cases e : j = k
            · subst e; have := HBt.out; simpa [hm] using this
            · exact HALL.out j (by omega)
          have HM2 := Lib.hid hm
          clear hin HBt hm
          go_wp2_with (go_at_call 34; refine (HL.out _ (HM.out.below (B := w.heap.size) (by repeat' first | with_reducible exact Below.refl _ _ | with_reducible assumption | with_reducible refine Free.Grow.alloc ?_ _ | with_reducible refine Free.Grow.setCell ?_ (by first | omega | (simp; done) | (simp; omega)) _ | with_reducible refine Free.Grow.drew ?_ | with_reducible refine Free.Grow.trans ?_ (by assumption)) hbw) (by first | omega | (simp; done) | (simp; omega))).mono ?_; rintro e w6 ⟨rfl, hb6⟩; have hc6 := (Free.cells_of hb6).1; have hf6 := (Free.cells_of hb6).2; have hz6 := hb6.size; (try simp only [World.size_alloc, World.size_setCell, World.size_drew] at hz6); (try (have : w.heap.size < w6.heap.size := (by omega))); (try (have : w.heap.size < w6.heap.size + 1 := (by omega))); (try (have : w.heap.size < w6.heap.size + 1 + 1 := (by omega))); (try (have : w.heap.size + 1 < w6.heap.size := (by omega))); (try (have : w.heap.size + 1 < w6.heap.size + 1 := (by omega))); (try (have : w.heap.size + 1 < w6.heap.size + 1 + 1 := (by omega))); (try (have : w.heap.size + 1 + 1 < w6.heap.size := (by omega))); (try (have : w.heap.size + 1 + 1 < w6.heap.size + 1 := (by omega))); (try (have : w.heap.size + 1 + 1 < w6.heap.size + 1 + 1 := (by omega))); (try (have : w.heap.size + 1 + 1 + 1 < w6.heap.size := (by omega))); (try (have : w.heap.size + 1 + 1 + 1 < w6.heap.size + 1 := (by omega))); (try (have : w.heap.size + 1 + 1 + 1 < w6.heap.size + 1 + 1 := (by omega))); (try (have : wr.heap.size < w6.heap.size := (by omega))); (try (have : wr.heap.size < w6.heap.size + 1 := (by omega))); (try (have : wr.heap.size < w6.heap.size + 1 + 1 := (by omega))); (try (have : wr.heap.size + 1 < w6.heap.size := (by omega))); (try (have : wr.heap.size + 1 < w6.heap.size + 1 := (by omega))); (try (have : wr.heap.size + 1 < w6.heap.size + 1 + 1 := (by omega))); (try (have : wr.heap.size + 1 + 1 < w6.heap.size := (by omega))); (try (have : wr.heap.size + 1 + 1 < w6.heap.size + 1 := (by omega))); (try (have : wr.heap.size + 1 + 1 < w6.heap.size + 1 + 1 := (by omega))); (try (have : wr.heap.size + 1 + 1 + 1 < w6.heap.size := (by omega))); (try (have : wr.heap.size + 1 + 1 + 1 < w6.heap.size + 1 := (by omega))); (try (have : wr.heap.size + 1 + 1 + 1 < w6.heap.size + 1 + 1 := (by omega))))
          have hm := HM2.out
          refine Free.wp_region 19 #[0, 0, 2, 6, 0, 16, 48, 127, 255, 511, 1023, 1023, 4095, 1023, 16383, 32767, 1023, 131071, 262143] (by kernel_rfl) (by kernel_rfl) ?_
          simp only [List.take_succ_cons, List.take_zero]
          iterate 10
            refine Free.E.q (by rfl) ?_
            apply Exists.intro
            refine ⟨fun u w' hc hb => ?_, ?_⟩
            go_simp
            (try go_ints); (try simp only [Ob.ite_imx, Ob.ite_imn]); first | exact rfl | (go_simp; exact rfl) | ((go_at_call 21; with_reducible exact Free.Calls.grow (HWt.out _))) | ((go_at_call 30; with_reducible exact HBk'.out _ (HM.out.below (B := w.heap.size) (by repeat' first | with_reducible exact Below.refl _ _ | with_reducible assumption | with_reducible refine Free.Grow.alloc ?_ _ | with_reducible refine Free.Grow.setCell ?_ (by first | omega | (simp; done) | (simp; omega)) _ | with_reducible refine Free.Grow.drew ?_ | with_reducible refine Free.Grow.trans ?_ (by assumption)) hbw) (by have := hb.size; omega))) | ((go_at_call 41; with_reducible exact HSk'.out _)) | (simp only [↓IntWalk.iteOmega]; (try go_simp); exact rfl)
            simp only [Act.put, List.setIfInBounds_toArray, List.set_cons_zero, List.set_cons_succ, List.nil_append, List.cons_append]
          iterate 8
            first
              | (refine Free.E.no ?_ ?_
                 (intro _; rfl)
                 simp only [Act.put, List.setIfInBounds_toArray, List.set_cons_zero, List.set_cons_succ, List.nil_append, List.cons_append])
              | (refine Free.E.qy ?_ ?_
                 (intro _; rfl)
                 apply Exists.intro
                 refine ⟨fun u w' hc hb => ?_, ?_⟩
                 go_simp
                 (try go_ints); (try simp only [Ob.ite_imx, Ob.ite_imn]); first | exact rfl | (go_simp; exact rfl) | ((go_at_call 21; with_reducible exact Free.Calls.grow (HWt.out _))) | ((go_at_call 30; with_reducible exact HBk'.out _ (HM.out.below (B := w.heap.size) (by repeat' first | with_reducible exact Below.refl _ _ | with_reducible assumption | with_reducible refine Free.Grow.alloc ?_ _ | with_reducible refine Free.Grow.setCell ?_ (by first | omega | (simp; done) | (simp; omega)) _ | with_reducible refine Free.Grow.drew ?_ | with_reducible refine Free.Grow.trans ?_ (by assumption)) hbw) (by have := hb.size; omega))) | ((go_at_call 41; with_reducible exact HSk'.out _)) | (simp only [↓IntWalk.iteOmega]; (try go_simp); exact rfl)
                 simp only [Act.put, List.setIfInBounds_toArray, List.set_cons_zero, List.set_cons_succ, List.nil_append, List.cons_append])
          iterate 1
            refine Free.E.q (by rfl) ?_
            apply Exists.intro
            refine ⟨fun u w' hc hb => ?_, ?_⟩
            go_simp
            (try go_ints); (try simp only [Ob.ite_imx, Ob.ite_imn]); first | exact rfl | (go_simp; exact rfl) | ((go_at_call 21; with_reducible exact Free.Calls.grow (HWt.out _))) | ((go_at_call 30; with_reducible exact HBk'.out _ (HM.out.below (B := w.heap.size) (by repeat' first | with_reducible exact Below.refl _ _ | with_reducible assumption | with_reducible refine Free.Grow.alloc ?_ _ | with_reducible refine Free.Grow.setCell ?_ (by first | omega | (simp; done) | (simp; omega)) _ | with_reducible refine Free.Grow.drew ?_ | with_reducible refine Free.Grow.trans ?_ (by assumption)) hbw) (by have := hb.size; omega))) | ((go_at_call 41; with_reducible exact HSk'.out _)) | (simp only [↓IntWalk.iteOmega]; (try go_simp); exact rfl)
            simp only [Act.put, List.setIfInBounds_toArray, List.set_cons_zero, List.set_cons_succ, List.nil_append, List.cons_append]
          refine Free.E.nil (fun u w7 S hF => ?_)
          have hb7 := hF.below
          clear hF
          have hc7 := (Free.cells_of hb7).1
          have hf7 := (Free.cells_of hb7).2
          have hz7 := hb7.size
          try simp only [World.size_alloc, World.size_setCell, World.size_drew] at hz7
          (try (have : w.heap.size < w7.heap.size := (by omega)))
          (try (have : w.heap.size < w7.heap.size + 1 := (by omega)))
          (try (have : w.heap.size < w7.heap.size + 1 + 1 := (by omega)))
          (try (have : w.heap.size + 1 < w7.heap.size := (by omega)))
          (try (have : w.heap.size + 1 < w7.heap.size + 1 := (by omega)))
          (try (have : w.heap.size + 1 < w7.heap.size + 1 + 1 := (by omega)))
          (try (have : w.heap.size + 1 + 1 < w7.heap.size := (by omega)))
          (try (have : w.heap.size + 1 + 1 < w7.heap.size + 1 := (by omega)))
          (try (have : w.heap.size + 1 + 1 < w7.heap.size + 1 + 1 := (by omega)))
          (try (have : w.heap.size + 1 + 1 + 1 < w7.heap.size := (by omega)))
          (try (have : w.heap.size + 1 + 1 + 1 < w7.heap.size + 1 := (by omega)))
          (try (have : w.heap.size + 1 + 1 + 1 < w7.heap.size + 1 + 1 := (by omega)))
          (try (have : wr.heap.size < w7.heap.size := (by omega)))
          (try (have : wr.heap.size < w7.heap.size + 1 := (by omega)))
          (try (have : wr.heap.size < w7.heap.size + 1 + 1 := (by omega)))
          (try (have : wr.heap.size + 1 < w7.heap.size := (by omega)))
          (try (have : wr.heap.size + 1 < w7.heap.size + 1 := (by omega)))
          (try (have : wr.heap.size + 1 < w7.heap.size + 1 + 1 := (by omega)))
          (try (have : wr.heap.size + 1 + 1 < w7.heap.size := (by omega)))
          (try (have : wr.heap.size + 1 + 1 < w7.heap.size + 1 := (by omega)))
          (try (have : wr.heap.size + 1 + 1 < w7.heap.size + 1 + 1 := (by omega)))
          (try (have : wr.heap.size + 1 + 1 + 1 < w7.heap.size := (by omega)))
          (try (have : wr.heap.size + 1 + 1 + 1 < w7.heap.size + 1 := (by omega)))
          (try (have : wr.heap.size + 1 + 1 + 1 < w7.heap.size + 1 + 1 := (by omega)))
          (try (have : w6.heap.size < w7.heap.size := (by omega)))
          (try (have : w6.heap.size < w7.heap.size + 1 := (by omega)))
          (try (have : w6.heap.size < w7.heap.size + 1 + 1 := (by omega)))
          (try (have : w6.heap.size + 1 < w7.heap.size := (by omega)))
          (try (have : w6.heap.size + 1 < w7.heap.size + 1 := (by omega)))
          (try (have : w6.heap.size + 1 < w7.heap.size + 1 + 1 := (by omega)))
          (try (have : w6.heap.size + 1 + 1 < w7.heap.size := (by omega)))
          (try (have : w6.heap.size + 1 + 1 < w7.heap.size + 1 := (by omega)))
          (try (have : w6.heap.size + 1 + 1 < w7.heap.size + 1 + 1 := (by omega)))
          (try (have : w6.heap.size + 1 + 1 + 1 < w7.heap.size := (by omega)))
          (try (have : w6.heap.size + 1 + 1 + 1 < w7.heap.size + 1 := (by omega)))
          (try (have : w6.heap.size + 1 + 1 + 1 < w7.heap.size + 1 + 1 := (by omega)))
          simp only [List.drop_succ_cons, List.drop_zero, List.drop_nil]
          go_wp2
          go_roundw
          case rel => exact ⟨k + 1, by omega, by go_num, Lib.hid (by repeat' first | with_reducible exact Below.refl _ _ | with_reducible assumption | with_reducible refine Free.Grow.alloc ?_ _ | with_reducible refine Free.Grow.setCell ?_ (by first | omega | (simp; done) | (simp; omega)) _ | with_reducible refine Free.Grow.drew ?_ | with_reducible refine Free.Grow.trans ?_ (by assumption)), Lib.hid (by repeat' first | with_reducible assumption | with_reducible exact Free.blk_new _ (by first | rfl | (simp; done)) | with_reducible refine Free.blk_alloc_old ?_ | with_reducible refine Free.blk_drew ?_ | with_reducible refine Free.blk_setCell_far ?_ (by first | omega | (simp; done) | (simp; omega)) _ | with_reducible apply Free.blk_setCell_to | (show Array.setIfInBounds _ _ _ = _; first | exact rfl | (simp; done)) | with_reducible refine Free.blk_below ?_ (by assumption)), Lib.hid (by repeat' first | with_reducible assumption | with_reducible exact Free.blk_new _ (by first | rfl | (simp; done)) | with_reducible refine Free.blk_alloc_old ?_ | with_reducible refine Free.blk_drew ?_ | with_reducible refine Free.blk_setCell_far ?_ (by first | omega | (simp; done) | (simp; omega)) _ | with_reducible apply Free.blk_setCell_to | (show Array.setIfInBounds _ _ _ = _; first | exact rfl | (simp; done)) | with_reducible refine Free.blk_below ?_ (by assumption)), Lib.hid (by repeat' first | with_reducible assumption | with_reducible exact Free.blk_new _ (by first | rfl | (simp; done)) | with_reducible refine Free.blk_alloc_old ?_ | with_reducible refine Free.blk_drew ?_ | with_reducible refine Free.blk_setCell_far ?_ (by first | omega | (simp; done) | (simp; omega)) _ | with_reducible apply Free.blk_setCell_to | (show Array.setIfInBounds _ _ _ = _; first | exact rfl | (simp; done)) | with_reducible refine Free.blk_below ?_ (by assumption)), HF2⟩
          case measure => simp [intOf]; omega
    · obtain rfl : k = N := by omega
      have ht : ¬ frstT l + k ≤ lastT l := by have := HNN.out; omega
      have HRF2 := Lib.hid (HRF.out (cnAny_false HALL.out))
      go_wp2_with (go_at_call 34; refine (HL.out _ (HM.out.below (B := w.heap.size) (by repeat' first | with_reducible exact Below.refl _ _ | with_reducible assumption | with_reducible refine Free.Grow.alloc ?_ _ | with_reducible refine Free.Grow.setCell ?_ (by first | omega | (simp; done) | (simp; omega)) _ | with_reducible refine Free.Grow.drew ?_ | with_reducible refine Free.Grow.trans ?_ (by assumption)) hbw) (by first | omega | (simp; done) | (simp; omega))).mono ?_; rintro e w6 ⟨rfl, hb6⟩; have hc6 := (Free.cells_of hb6).1; have hf6 := (Free.cells_of hb6).2; have hz6 := hb6.size; (try simp only [World.size_alloc, World.size_setCell, World.size_drew] at hz6); (try (have : w.heap.size < w6.heap.size := (by omega))); (try (have : w.heap.size < w6.heap.size + 1 := (by omega))); (try (have : w.heap.size < w6.heap.size + 1 + 1 := (by omega))); (try (have : w.heap.size + 1 < w6.heap.size := (by omega))); (try (have : w.heap.size + 1 < w6.heap.size + 1 := (by omega))); (try (have : w.heap.size + 1 < w6.heap.size + 1 + 1 := (by omega))); (try (have : w.heap.size + 1 + 1 < w6.heap.size := (by omega))); (try (have : w.heap.size + 1 + 1 < w6.heap.size + 1 := (by omega))); (try (have : w.heap.size + 1 + 1 < w6.heap.size + 1 + 1 := (by omega))); (try (have : w.heap.size + 1 + 1 + 1 < w6.heap.size := (by omega))); (try (have : w.heap.size + 1 + 1 + 1 < w6.heap.size + 1 := (by omega))); (try (have : w.heap.size + 1 + 1 + 1 < w6.heap.size + 1 + 1 := (by omega))); (try (have : wr.heap.size < w6.heap.size := (by omega))); (try (have : wr.heap.size < w6.heap.size + 1 := (by omega))); (try (have : wr.heap.size < w6.heap.size + 1 + 1 := (by omega))); (try (have : wr.heap.size + 1 < w6.heap.size := (by omega))); (try (have : wr.heap.size + 1 < w6.heap.size + 1 := (by omega))); (try (have : wr.heap.size + 1 < w6.heap.size + 1 + 1 := (by omega))); (try (have : wr.heap.size + 1 + 1 < w6.heap.size := (by omega))); (try (have : wr.heap.size + 1 + 1 < w6.heap.size + 1 := (by omega))); (try (have : wr.heap.size + 1 + 1 < w6.heap.size + 1 + 1 := (by omega))); (try (have : wr.heap.size + 1 + 1 + 1 < w6.heap.size := (by omega))); (try (have : wr.heap.size + 1 + 1 + 1 < w6.heap.size + 1 := (by omega))); (try (have : wr.heap.size + 1 + 1 + 1 < w6.heap.size + 1 + 1 := (by omega))))
      first | (go_ret2; exact HRF2.out _ (by repeat' first | with_reducible exact Below.refl _ _ | with_reducible assumption | with_reducible refine Free.Grow.alloc ?_ _ | with_reducible refine Free.Grow.setCell ?_ (by first | omega | (simp; done) | (simp; omega)) _ | with_reducible refine Free.Grow.drew ?_ | with_reducible refine Free.Grow.trans ?_ (by assumption))) | exact HRF2.out _ (by repeat' first | with_reducible exact Below.refl _ _ | with_reducible assumption | with_reducible refine Free.Grow.alloc ?_ _ | with_reducible refine Free.Grow.setCell ?_ (by first | omega | (simp; done) | (simp; omega)) _ | with_reducible refine Free.Grow.drew ?_ | with_reducible refine Free.Grow.trans ?_ (by assumption))
end Go.Proofs.Ytaoennekamlfeaa
