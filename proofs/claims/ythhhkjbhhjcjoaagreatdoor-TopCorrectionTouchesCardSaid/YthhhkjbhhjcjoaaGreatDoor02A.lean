/- Chapter 2: the small functions of the statements: Few, Brief, tickErr; ranges compared. -/
import Derived.Test.YthhhkjbhhjcjoaaGreatDoor02y
set_option linter.unusedSimpArgs false
set_option linter.unusedVariables false
namespace Go.Proofs.YthhhkjbhhjcjoaaGreatDoor
open Go.RowKit Go.Ob

def fewB (nm n : Nat) : Bool := decide (nm ≤ 30 ∧ (n ≤ 6 ∨ (40 < n ∧ n ≤ 42)))
theorem fewB_spec {nm n : Nat} (h : fewB nm n = true) : nm ≤ 30 ∧ n ≤ 42 := by
  have := of_decide_eq_true h; omega

set_option maxRecDepth 100000 in
set_option maxHeartbeats 1000000 in
theorem Few_any (nm : ByteArray) (bd : Int) (a : Option Addr) (n cap : Nat) (w : World) (hn : (n : Int) ≤ 9223372036854775807) (hnm : (nm.size : Int) ≤ 9223372036854775807) :
    Calls Tryz.prog 12 #[obV nm bd a n cap] w fun e w' => e = .returned (.bool (fewB nm.size n)) ∧ Below w.heap.size w w' := by
  refine Calls.made fun R HR => ?_
  have HQ : Hid (∀ b, fewB nm.size n = b → ∀ w', Below w.heap.size w w' → R (.returned (.bool b)) w') := fun b h w' hb => by have := HR.out w' hb; rw [h] at this; exact this
  clear HR
  by_cases h1 : nm.size ≤ 30
  · have h1' : (nm.size : Int) ≤ 30 := by omega
    by_cases h2 : n ≤ 6
    · have h2' : (n : Int) ≤ 6 := by omega
      have HR := Lib.hid (HQ.out true (by simp [fewB]; omega))
      clear HQ
      go_enter Tryz.func12, Tryz.ntmps12
      go_wp2
      first | (go_ret; exact HR.out _ (by repeat' first | with_reducible exact Below.refl _ _ | with_reducible assumption | with_reducible refine Free.Grow.alloc ?_ _ | with_reducible refine Free.Grow.setCell ?_ (by first | omega | (simp; done) | (simp; omega)) _ | with_reducible refine Free.Grow.drew ?_ | with_reducible refine Free.Grow.trans ?_ (by assumption))) | exact HR.out _ (by repeat' first | with_reducible exact Below.refl _ _ | with_reducible assumption | with_reducible refine Free.Grow.alloc ?_ _ | with_reducible refine Free.Grow.setCell ?_ (by first | omega | (simp; done) | (simp; omega)) _ | with_reducible refine Free.Grow.drew ?_ | with_reducible refine Free.Grow.trans ?_ (by assumption))
    · have h2' : ¬ (n : Int) ≤ 6 := by omega
      by_cases h3 : 40 < n
      · have h3' : (40 : Int) < n := by omega
        by_cases h4 : n ≤ 42
        · have h4' : (n : Int) ≤ 42 := by omega
          have HR := Lib.hid (HQ.out true (by simp [fewB]; omega))
          clear HQ
          go_enter Tryz.func12, Tryz.ntmps12
          go_wp2
          first | (go_ret; exact HR.out _ (by repeat' first | with_reducible exact Below.refl _ _ | with_reducible assumption | with_reducible refine Free.Grow.alloc ?_ _ | with_reducible refine Free.Grow.setCell ?_ (by first | omega | (simp; done) | (simp; omega)) _ | with_reducible refine Free.Grow.drew ?_ | with_reducible refine Free.Grow.trans ?_ (by assumption))) | exact HR.out _ (by repeat' first | with_reducible exact Below.refl _ _ | with_reducible assumption | with_reducible refine Free.Grow.alloc ?_ _ | with_reducible refine Free.Grow.setCell ?_ (by first | omega | (simp; done) | (simp; omega)) _ | with_reducible refine Free.Grow.drew ?_ | with_reducible refine Free.Grow.trans ?_ (by assumption))
        · have h4' : ¬ (n : Int) ≤ 42 := by omega
          have HR := Lib.hid (HQ.out false (by simp [fewB]; omega))
          clear HQ
          go_enter Tryz.func12, Tryz.ntmps12
          go_wp2
          first | (go_ret; exact HR.out _ (by repeat' first | with_reducible exact Below.refl _ _ | with_reducible assumption | with_reducible refine Free.Grow.alloc ?_ _ | with_reducible refine Free.Grow.setCell ?_ (by first | omega | (simp; done) | (simp; omega)) _ | with_reducible refine Free.Grow.drew ?_ | with_reducible refine Free.Grow.trans ?_ (by assumption))) | exact HR.out _ (by repeat' first | with_reducible exact Below.refl _ _ | with_reducible assumption | with_reducible refine Free.Grow.alloc ?_ _ | with_reducible refine Free.Grow.setCell ?_ (by first | omega | (simp; done) | (simp; omega)) _ | with_reducible refine Free.Grow.drew ?_ | with_reducible refine Free.Grow.trans ?_ (by assumption))
      · have h3' : ¬ (40 : Int) < n := by omega
        have HR := Lib.hid (HQ.out false (by simp [fewB]; omega))
        clear HQ
        go_enter Tryz.func12, Tryz.ntmps12
        go_wp2
        first | (go_ret; exact HR.out _ (by repeat' first | with_reducible exact Below.refl _ _ | with_reducible assumption | with_reducible refine Free.Grow.alloc ?_ _ | with_reducible refine Free.Grow.setCell ?_ (by first | omega | (simp; done) | (simp; omega)) _ | with_reducible refine Free.Grow.drew ?_ | with_reducible refine Free.Grow.trans ?_ (by assumption))) | exact HR.out _ (by repeat' first | with_reducible exact Below.refl _ _ | with_reducible assumption | with_reducible refine Free.Grow.alloc ?_ _ | with_reducible refine Free.Grow.setCell ?_ (by first | omega | (simp; done) | (simp; omega)) _ | with_reducible refine Free.Grow.drew ?_ | with_reducible refine Free.Grow.trans ?_ (by assumption))
  · have h1' : ¬ (nm.size : Int) ≤ 30 := by omega
    have HR := Lib.hid (HQ.out false (by simp [fewB]; omega))
    clear HQ
    go_enter Tryz.func12, Tryz.ntmps12
    go_wp2
    first | (go_ret; exact HR.out _ (by repeat' first | with_reducible exact Below.refl _ _ | with_reducible assumption | with_reducible refine Free.Grow.alloc ?_ _ | with_reducible refine Free.Grow.setCell ?_ (by first | omega | (simp; done) | (simp; omega)) _ | with_reducible refine Free.Grow.drew ?_ | with_reducible refine Free.Grow.trans ?_ (by assumption))) | exact HR.out _ (by repeat' first | with_reducible exact Below.refl _ _ | with_reducible assumption | with_reducible refine Free.Grow.alloc ?_ _ | with_reducible refine Free.Grow.setCell ?_ (by first | omega | (simp; done) | (simp; omega)) _ | with_reducible refine Free.Grow.drew ?_ | with_reducible refine Free.Grow.trans ?_ (by assumption))

theorem Right.of {nm : List UInt8} {bd : Int} {l : List St} (h : (orbE nm bd l).2 = 0) : Right bd l := (orbE_right h).1

/-- An orbit that is wrong, or short. -/
def briefB (nm : List UInt8) (bd : Int) (l : List St) : Bool := decide ((orbE nm bd l).2 ≠ 0 ∨ lastT l - frstT l ≤ 200)

set_option maxRecDepth 100000 in
set_option maxHeartbeats 1000000 in
theorem Brief_no (nm : ByteArray) (bd : Int) (a : Option Addr) (n cap : Nat) (w : World) (hn : (n : Int) ≤ 9223372036854775807) (hnm : (nm.size : Int) ≤ 9223372036854775807) (hf : fewB nm.size n = false) :
    Calls Tryz.prog 21 #[obV nm bd a n cap] w fun e w' => e = .returned (.bool false) ∧ Below w.heap.size w w' := by
  have HF := Lib.hid (fun w' => Few_any nm bd a n cap w' hn hnm)
  rw [hf] at HF
  clear hf
  refine Calls.made fun R HR => ?_
  go_enter Tryz.func21, Tryz.ntmps21
  go_wp2
  refine Free.wp_region 16 #[0, 1, 3, 7, 15, 31, 63, 127, 255, 127, 1023, 2047, 4095, 8191, 16383, 32767] (by kernel_rfl) (by kernel_rfl) ?_
  simp only [List.take_succ_cons, List.take_zero]
  iterate 3
    refine Free.E.q (by rfl) ?_
    apply Exists.intro
    refine ⟨fun u w' hc hb => ?_, ?_⟩
    go_simp
    (try go_ints); (try simp only [Ob.ite_imx, Ob.ite_imn]); first | exact rfl | (go_simp; exact rfl) | ((go_at_call 12; exact HF.out _)) | (simp only [↓IntWalk.iteOmega]; (try go_simp); exact rfl)
    simp only [Act.put, List.setIfInBounds_toArray, List.set_cons_zero, List.set_cons_succ, List.nil_append, List.cons_append]
  iterate 4
    first
      | (refine Free.E.no ?_ ?_
         (intro _; rfl)
         simp only [Act.put, List.setIfInBounds_toArray, List.set_cons_zero, List.set_cons_succ, List.nil_append, List.cons_append])
      | (refine Free.E.qy ?_ ?_
         (intro _; rfl)
         apply Exists.intro
         refine ⟨fun u w' hc hb => ?_, ?_⟩
         go_simp
         (try go_ints); (try simp only [Ob.ite_imx, Ob.ite_imn]); first | exact rfl | (go_simp; exact rfl) | ((go_at_call 12; exact HF.out _)) | (simp only [↓IntWalk.iteOmega]; (try go_simp); exact rfl)
         simp only [Act.put, List.setIfInBounds_toArray, List.set_cons_zero, List.set_cons_succ, List.nil_append, List.cons_append])
  iterate 6
    first
      | (refine Free.E.no ?_ ?_
         (intro _; rfl)
         simp only [Act.put, List.setIfInBounds_toArray, List.set_cons_zero, List.set_cons_succ, List.nil_append, List.cons_append])
      | (refine Free.E.qy ?_ ?_
         (intro _; rfl)
         apply Exists.intro
         refine ⟨fun u w' hc hb => ?_, ?_⟩
         go_simp
         (try go_ints); (try simp only [Ob.ite_imx, Ob.ite_imn]); first | exact rfl | (go_simp; exact rfl) | ((go_at_call 12; exact HF.out _)) | (simp only [↓IntWalk.iteOmega]; (try go_simp); exact rfl)
         simp only [Act.put, List.setIfInBounds_toArray, List.set_cons_zero, List.set_cons_succ, List.nil_append, List.cons_append])
  iterate 1
    first
      | (refine Free.E.no ?_ ?_
         (intro _; rfl)
         simp only [Act.put, List.setIfInBounds_toArray, List.set_cons_zero, List.set_cons_succ, List.nil_append, List.cons_append])
      | (refine Free.E.qy ?_ ?_
         (intro _; rfl)
         apply Exists.intro
         refine ⟨fun u w' hc hb => ?_, ?_⟩
         go_simp
         (try go_ints); (try simp only [Ob.ite_imx, Ob.ite_imn]); first | exact rfl | (go_simp; exact rfl) | ((go_at_call 12; exact HF.out _)) | (simp only [↓IntWalk.iteOmega]; (try go_simp); exact rfl)
         simp only [Act.put, List.setIfInBounds_toArray, List.set_cons_zero, List.set_cons_succ, List.nil_append, List.cons_append])
  iterate 2
    refine Free.E.q (by rfl) ?_
    apply Exists.intro
    refine ⟨fun u w' hc hb => ?_, ?_⟩
    go_simp
    (try go_ints); (try simp only [Ob.ite_imx, Ob.ite_imn]); first | exact rfl | (go_simp; exact rfl) | ((go_at_call 12; exact HF.out _)) | (simp only [↓IntWalk.iteOmega]; (try go_simp); exact rfl)
    simp only [Act.put, List.setIfInBounds_toArray, List.set_cons_zero, List.set_cons_succ, List.nil_append, List.cons_append]
  refine Free.E.nil (fun u w1 S hF => ?_)
  have hb1 := hF.below
  clear hF
  have hc1 := (Free.cells_of hb1).1
  have hf1 := (Free.cells_of hb1).2
  have hz1 := hb1.size
  try simp only [World.size_alloc, World.size_setCell, World.size_drew] at hz1
  (try (have : w.heap.size < w1.heap.size := (by omega)))
  (try (have : w.heap.size < w1.heap.size + 1 := (by omega)))
  (try (have : w.heap.size < w1.heap.size + 1 + 1 := (by omega)))
  (try (have : w.heap.size + 1 < w1.heap.size := (by omega)))
  (try (have : w.heap.size + 1 < w1.heap.size + 1 := (by omega)))
  (try (have : w.heap.size + 1 < w1.heap.size + 1 + 1 := (by omega)))
  (try (have : w.heap.size + 1 + 1 < w1.heap.size := (by omega)))
  (try (have : w.heap.size + 1 + 1 < w1.heap.size + 1 := (by omega)))
  (try (have : w.heap.size + 1 + 1 < w1.heap.size + 1 + 1 := (by omega)))
  (try (have : w.heap.size + 1 + 1 + 1 < w1.heap.size := (by omega)))
  (try (have : w.heap.size + 1 + 1 + 1 < w1.heap.size + 1 := (by omega)))
  (try (have : w.heap.size + 1 + 1 + 1 < w1.heap.size + 1 + 1 := (by omega)))
  simp only [List.drop_succ_cons, List.drop_zero, List.drop_nil]
  go_wp2
  first | (go_ret; exact HR.out _ (by repeat' first | with_reducible exact Below.refl _ _ | with_reducible assumption | with_reducible refine Free.Grow.alloc ?_ _ | with_reducible refine Free.Grow.setCell ?_ (by first | omega | (simp; done) | (simp; omega)) _ | with_reducible refine Free.Grow.drew ?_ | with_reducible refine Free.Grow.trans ?_ (by assumption))) | exact HR.out _ (by repeat' first | with_reducible exact Below.refl _ _ | with_reducible assumption | with_reducible refine Free.Grow.alloc ?_ _ | with_reducible refine Free.Grow.setCell ?_ (by first | omega | (simp; done) | (simp; omega)) _ | with_reducible refine Free.Grow.drew ?_ | with_reducible refine Free.Grow.trans ?_ (by assumption))

set_option maxRecDepth 100000 in
set_option maxHeartbeats 2000000 in
theorem Brief_yes (nm : ByteArray) (bd : Int) (a : Option Addr) (cap : Nat) (l : List St) (w : World) (hO : OrbIn w nm a cap l) (hf : fewB nm.size l.length = true) :
    Calls Tryz.prog 21 #[obV nm bd a l.length cap] w fun e w' => e = .returned (.bool (briefB nm.data.toList bd l)) ∧ Below w.heap.size w w' := by
  have HF := Lib.hid (fun w' => Few_any nm bd a l.length cap w' hO.len (by have := hO.nm; omega))
  rw [hf] at HF
  clear hf
  refine Calls.made fun R HR => ?_
  have HQ : Hid (∀ b, briefB nm.data.toList bd l = b → ∀ w', Below w.heap.size w w' → R (.returned (.bool b)) w') := fun b h w' hb => by have := HR.out w' hb; rw [h] at this; exact this
  clear HR
  have HE := Lib.hid (fun w' (h : OrbIn w' nm a cap l) => Err_any nm bd a cap l w' h)
  by_cases h : (orbE nm.data.toList bd l).2 = 0
  · have hR := Right.of h
    obtain ⟨b, off, rfl, hbw, hmem⟩ := hO.mem hR
    have h2 := hR.n2
    have h40 := hR.n40
    have hf0 := hR.ok 0 (by omega)
    have hf1 := hR.ok (l.length - 1) (by omega)
    have t0 : 0 ≤ frstT l := hf0.t0
    have t1 : frstT l ≤ 1000000000 := hf0.t1
    have t2 : 0 ≤ lastT l := hf1.t0
    have t3 : lastT l ≤ 1000000000 := hf1.t1
    have HL := Lib.hid (fun w' (hS' : HasSts w' b off l) (hb' : b < w'.heap.size) => Last_any nm bd b off cap l w' hS' hb' (by omega) (by omega))
    have HF1 := Lib.hid (fun w' (hS' : HasSts w' b off l) (hb' : b < w'.heap.size) => First_any nm bd b off cap l w' hS' hb' (by omega) (by omega))
    have hb0 : ((orbE nm.data.toList bd l).2 != 0) = false := by simp [h]
    have HO := Lib.hid hO
    by_cases hd : lastT l - frstT l ≤ 200
    · have HR := Lib.hid (HQ.out true (by simp [briefB, hd]))
      clear h hO hR HQ hf0 hf1
      generalize (orbE nm.data.toList bd l).2 = c at *
      go_enter Tryz.func21, Tryz.ntmps21
      go_wp2
      refine Free.wp_region 16 #[0, 1, 3, 7, 15, 31, 63, 127, 255, 127, 1023, 2047, 4095, 8191, 16383, 32767] (by kernel_rfl) (by kernel_rfl) ?_
      simp only [List.take_succ_cons, List.take_zero]
      iterate 3
        refine Free.E.q (by rfl) ?_
        apply Exists.intro
        refine ⟨fun u w' hc hb => ?_, ?_⟩
        go_simp
        (try go_ints); (try simp only [Ob.ite_imx, Ob.ite_imn]); first | exact rfl | (go_simp; exact rfl) | ((go_at_call 12; exact HF.out _)) | ((go_at_call 15; exact HE.out _ (HO.out.below (by repeat' first | with_reducible exact Below.refl _ _ | with_reducible assumption | with_reducible refine Free.Grow.alloc ?_ _ | with_reducible refine Free.Grow.setCell ?_ (by first | omega | (simp; done) | (simp; omega)) _ | with_reducible refine Free.Grow.drew ?_ | with_reducible refine Free.Grow.trans ?_ (by assumption))))) | ((go_at_call 27; exact HL.out _ (hmem.below (B := w.heap.size) (by repeat' first | with_reducible exact Below.refl _ _ | with_reducible assumption | with_reducible refine Free.Grow.alloc ?_ _ | with_reducible refine Free.Grow.setCell ?_ (by first | omega | (simp; done) | (simp; omega)) _ | with_reducible refine Free.Grow.drew ?_ | with_reducible refine Free.Grow.trans ?_ (by assumption)) hbw) (by have := hb.size; simp at this; omega))) | ((go_at_call 26; exact HF1.out _ (hmem.below (B := w.heap.size) (by repeat' first | with_reducible exact Below.refl _ _ | with_reducible assumption | with_reducible refine Free.Grow.alloc ?_ _ | with_reducible refine Free.Grow.setCell ?_ (by first | omega | (simp; done) | (simp; omega)) _ | with_reducible refine Free.Grow.drew ?_ | with_reducible refine Free.Grow.trans ?_ (by assumption)) hbw) (by have := hb.size; simp at this; omega))) | (simp only [↓IntWalk.iteOmega]; (try go_simp); exact rfl)
        simp only [Act.put, List.setIfInBounds_toArray, List.set_cons_zero, List.set_cons_succ, List.nil_append, List.cons_append]
      iterate 4
        first
          | (refine Free.E.no ?_ ?_
             (intro _; rfl)
             simp only [Act.put, List.setIfInBounds_toArray, List.set_cons_zero, List.set_cons_succ, List.nil_append, List.cons_append])
          | (refine Free.E.qy ?_ ?_
             (intro _; rfl)
             apply Exists.intro
             refine ⟨fun u w' hc hb => ?_, ?_⟩
             go_simp
             (try go_ints); (try simp only [Ob.ite_imx, Ob.ite_imn]); first | exact rfl | (go_simp; exact rfl) | ((go_at_call 12; exact HF.out _)) | ((go_at_call 15; exact HE.out _ (HO.out.below (by repeat' first | with_reducible exact Below.refl _ _ | with_reducible assumption | with_reducible refine Free.Grow.alloc ?_ _ | with_reducible refine Free.Grow.setCell ?_ (by first | omega | (simp; done) | (simp; omega)) _ | with_reducible refine Free.Grow.drew ?_ | with_reducible refine Free.Grow.trans ?_ (by assumption))))) | ((go_at_call 27; exact HL.out _ (hmem.below (B := w.heap.size) (by repeat' first | with_reducible exact Below.refl _ _ | with_reducible assumption | with_reducible refine Free.Grow.alloc ?_ _ | with_reducible refine Free.Grow.setCell ?_ (by first | omega | (simp; done) | (simp; omega)) _ | with_reducible refine Free.Grow.drew ?_ | with_reducible refine Free.Grow.trans ?_ (by assumption)) hbw) (by have := hb.size; simp at this; omega))) | ((go_at_call 26; exact HF1.out _ (hmem.below (B := w.heap.size) (by repeat' first | with_reducible exact Below.refl _ _ | with_reducible assumption | with_reducible refine Free.Grow.alloc ?_ _ | with_reducible refine Free.Grow.setCell ?_ (by first | omega | (simp; done) | (simp; omega)) _ | with_reducible refine Free.Grow.drew ?_ | with_reducible refine Free.Grow.trans ?_ (by assumption)) hbw) (by have := hb.size; simp at this; omega))) | (simp only [↓IntWalk.iteOmega]; (try go_simp); exact rfl)
             simp only [Act.put, List.setIfInBounds_toArray, List.set_cons_zero, List.set_cons_succ, List.nil_append, List.cons_append])
      iterate 6
        first
          | (refine Free.E.no ?_ ?_
             (intro _; rfl)
             simp only [Act.put, List.setIfInBounds_toArray, List.set_cons_zero, List.set_cons_succ, List.nil_append, List.cons_append])
          | (refine Free.E.qy ?_ ?_
             (intro _; rfl)
             apply Exists.intro
             refine ⟨fun u w' hc hb => ?_, ?_⟩
             go_simp
             (try go_ints); (try simp only [Ob.ite_imx, Ob.ite_imn]); first | exact rfl | (go_simp; exact rfl) | ((go_at_call 12; exact HF.out _)) | ((go_at_call 15; exact HE.out _ (HO.out.below (by repeat' first | with_reducible exact Below.refl _ _ | with_reducible assumption | with_reducible refine Free.Grow.alloc ?_ _ | with_reducible refine Free.Grow.setCell ?_ (by first | omega | (simp; done) | (simp; omega)) _ | with_reducible refine Free.Grow.drew ?_ | with_reducible refine Free.Grow.trans ?_ (by assumption))))) | ((go_at_call 27; exact HL.out _ (hmem.below (B := w.heap.size) (by repeat' first | with_reducible exact Below.refl _ _ | with_reducible assumption | with_reducible refine Free.Grow.alloc ?_ _ | with_reducible refine Free.Grow.setCell ?_ (by first | omega | (simp; done) | (simp; omega)) _ | with_reducible refine Free.Grow.drew ?_ | with_reducible refine Free.Grow.trans ?_ (by assumption)) hbw) (by have := hb.size; simp at this; omega))) | ((go_at_call 26; exact HF1.out _ (hmem.below (B := w.heap.size) (by repeat' first | with_reducible exact Below.refl _ _ | with_reducible assumption | with_reducible refine Free.Grow.alloc ?_ _ | with_reducible refine Free.Grow.setCell ?_ (by first | omega | (simp; done) | (simp; omega)) _ | with_reducible refine Free.Grow.drew ?_ | with_reducible refine Free.Grow.trans ?_ (by assumption)) hbw) (by have := hb.size; simp at this; omega))) | (simp only [↓IntWalk.iteOmega]; (try go_simp); exact rfl)
             simp only [Act.put, List.setIfInBounds_toArray, List.set_cons_zero, List.set_cons_succ, List.nil_append, List.cons_append])
      iterate 1
        first
          | (refine Free.E.no ?_ ?_
             (intro _; rfl)
             simp only [Act.put, List.setIfInBounds_toArray, List.set_cons_zero, List.set_cons_succ, List.nil_append, List.cons_append])
          | (refine Free.E.qy ?_ ?_
             (intro _; rfl)
             apply Exists.intro
             refine ⟨fun u w' hc hb => ?_, ?_⟩
             go_simp
             (try go_ints); (try simp only [Ob.ite_imx, Ob.ite_imn]); first | exact rfl | (go_simp; exact rfl) | ((go_at_call 12; exact HF.out _)) | ((go_at_call 15; exact HE.out _ (HO.out.below (by repeat' first | with_reducible exact Below.refl _ _ | with_reducible assumption | with_reducible refine Free.Grow.alloc ?_ _ | with_reducible refine Free.Grow.setCell ?_ (by first | omega | (simp; done) | (simp; omega)) _ | with_reducible refine Free.Grow.drew ?_ | with_reducible refine Free.Grow.trans ?_ (by assumption))))) | ((go_at_call 27; exact HL.out _ (hmem.below (B := w.heap.size) (by repeat' first | with_reducible exact Below.refl _ _ | with_reducible assumption | with_reducible refine Free.Grow.alloc ?_ _ | with_reducible refine Free.Grow.setCell ?_ (by first | omega | (simp; done) | (simp; omega)) _ | with_reducible refine Free.Grow.drew ?_ | with_reducible refine Free.Grow.trans ?_ (by assumption)) hbw) (by have := hb.size; simp at this; omega))) | ((go_at_call 26; exact HF1.out _ (hmem.below (B := w.heap.size) (by repeat' first | with_reducible exact Below.refl _ _ | with_reducible assumption | with_reducible refine Free.Grow.alloc ?_ _ | with_reducible refine Free.Grow.setCell ?_ (by first | omega | (simp; done) | (simp; omega)) _ | with_reducible refine Free.Grow.drew ?_ | with_reducible refine Free.Grow.trans ?_ (by assumption)) hbw) (by have := hb.size; simp at this; omega))) | (simp only [↓IntWalk.iteOmega]; (try go_simp); exact rfl)
             simp only [Act.put, List.setIfInBounds_toArray, List.set_cons_zero, List.set_cons_succ, List.nil_append, List.cons_append])
      iterate 2
        refine Free.E.q (by rfl) ?_
        apply Exists.intro
        refine ⟨fun u w' hc hb => ?_, ?_⟩
        go_simp
        (try go_ints); (try simp only [Ob.ite_imx, Ob.ite_imn]); first | exact rfl | (go_simp; exact rfl) | ((go_at_call 12; exact HF.out _)) | ((go_at_call 15; exact HE.out _ (HO.out.below (by repeat' first | with_reducible exact Below.refl _ _ | with_reducible assumption | with_reducible refine Free.Grow.alloc ?_ _ | with_reducible refine Free.Grow.setCell ?_ (by first | omega | (simp; done) | (simp; omega)) _ | with_reducible refine Free.Grow.drew ?_ | with_reducible refine Free.Grow.trans ?_ (by assumption))))) | ((go_at_call 27; exact HL.out _ (hmem.below (B := w.heap.size) (by repeat' first | with_reducible exact Below.refl _ _ | with_reducible assumption | with_reducible refine Free.Grow.alloc ?_ _ | with_reducible refine Free.Grow.setCell ?_ (by first | omega | (simp; done) | (simp; omega)) _ | with_reducible refine Free.Grow.drew ?_ | with_reducible refine Free.Grow.trans ?_ (by assumption)) hbw) (by have := hb.size; simp at this; omega))) | ((go_at_call 26; exact HF1.out _ (hmem.below (B := w.heap.size) (by repeat' first | with_reducible exact Below.refl _ _ | with_reducible assumption | with_reducible refine Free.Grow.alloc ?_ _ | with_reducible refine Free.Grow.setCell ?_ (by first | omega | (simp; done) | (simp; omega)) _ | with_reducible refine Free.Grow.drew ?_ | with_reducible refine Free.Grow.trans ?_ (by assumption)) hbw) (by have := hb.size; simp at this; omega))) | (simp only [↓IntWalk.iteOmega]; (try go_simp); exact rfl)
        simp only [Act.put, List.setIfInBounds_toArray, List.set_cons_zero, List.set_cons_succ, List.nil_append, List.cons_append]
      refine Free.E.nil (fun u w1 S hF => ?_)
      have hb1 := hF.below
      clear hF
      have hc1 := (Free.cells_of hb1).1
      have hf1 := (Free.cells_of hb1).2
      have hz1 := hb1.size
      try simp only [World.size_alloc, World.size_setCell, World.size_drew] at hz1
      (try (have : w.heap.size < w1.heap.size := (by omega)))
      (try (have : w.heap.size < w1.heap.size + 1 := (by omega)))
      (try (have : w.heap.size < w1.heap.size + 1 + 1 := (by omega)))
      (try (have : w.heap.size + 1 < w1.heap.size := (by omega)))
      (try (have : w.heap.size + 1 < w1.heap.size + 1 := (by omega)))
      (try (have : w.heap.size + 1 < w1.heap.size + 1 + 1 := (by omega)))
      (try (have : w.heap.size + 1 + 1 < w1.heap.size := (by omega)))
      (try (have : w.heap.size + 1 + 1 < w1.heap.size + 1 := (by omega)))
      (try (have : w.heap.size + 1 + 1 < w1.heap.size + 1 + 1 := (by omega)))
      (try (have : w.heap.size + 1 + 1 + 1 < w1.heap.size := (by omega)))
      (try (have : w.heap.size + 1 + 1 + 1 < w1.heap.size + 1 := (by omega)))
      (try (have : w.heap.size + 1 + 1 + 1 < w1.heap.size + 1 + 1 := (by omega)))
      simp only [List.drop_succ_cons, List.drop_zero, List.drop_nil]
      go_wp2
      first | (go_ret; exact HR.out _ (by repeat' first | with_reducible exact Below.refl _ _ | with_reducible assumption | with_reducible refine Free.Grow.alloc ?_ _ | with_reducible refine Free.Grow.setCell ?_ (by first | omega | (simp; done) | (simp; omega)) _ | with_reducible refine Free.Grow.drew ?_ | with_reducible refine Free.Grow.trans ?_ (by assumption))) | exact HR.out _ (by repeat' first | with_reducible exact Below.refl _ _ | with_reducible assumption | with_reducible refine Free.Grow.alloc ?_ _ | with_reducible refine Free.Grow.setCell ?_ (by first | omega | (simp; done) | (simp; omega)) _ | with_reducible refine Free.Grow.drew ?_ | with_reducible refine Free.Grow.trans ?_ (by assumption))
    · have hd' : ¬ lastT l - frstT l ≤ 200 := hd
      have HR := Lib.hid (HQ.out (decide (lastT l - frstT l ≤ 200)) (by simp [briefB, h]))
      clear h hO hR HQ hf0 hf1
      generalize (orbE nm.data.toList bd l).2 = c at *
      go_enter Tryz.func21, Tryz.ntmps21
      go_wp2
      refine Free.wp_region 16 #[0, 1, 3, 7, 15, 31, 63, 127, 255, 127, 1023, 2047, 4095, 8191, 16383, 32767] (by kernel_rfl) (by kernel_rfl) ?_
      simp only [List.take_succ_cons, List.take_zero]
      iterate 3
        refine Free.E.q (by rfl) ?_
        apply Exists.intro
        refine ⟨fun u w' hc hb => ?_, ?_⟩
        go_simp
        (try go_ints); (try simp only [Ob.ite_imx, Ob.ite_imn]); first | exact rfl | (go_simp; exact rfl) | ((go_at_call 12; exact HF.out _)) | ((go_at_call 15; exact HE.out _ (HO.out.below (by repeat' first | with_reducible exact Below.refl _ _ | with_reducible assumption | with_reducible refine Free.Grow.alloc ?_ _ | with_reducible refine Free.Grow.setCell ?_ (by first | omega | (simp; done) | (simp; omega)) _ | with_reducible refine Free.Grow.drew ?_ | with_reducible refine Free.Grow.trans ?_ (by assumption))))) | ((go_at_call 27; exact HL.out _ (hmem.below (B := w.heap.size) (by repeat' first | with_reducible exact Below.refl _ _ | with_reducible assumption | with_reducible refine Free.Grow.alloc ?_ _ | with_reducible refine Free.Grow.setCell ?_ (by first | omega | (simp; done) | (simp; omega)) _ | with_reducible refine Free.Grow.drew ?_ | with_reducible refine Free.Grow.trans ?_ (by assumption)) hbw) (by have := hb.size; simp at this; omega))) | ((go_at_call 26; exact HF1.out _ (hmem.below (B := w.heap.size) (by repeat' first | with_reducible exact Below.refl _ _ | with_reducible assumption | with_reducible refine Free.Grow.alloc ?_ _ | with_reducible refine Free.Grow.setCell ?_ (by first | omega | (simp; done) | (simp; omega)) _ | with_reducible refine Free.Grow.drew ?_ | with_reducible refine Free.Grow.trans ?_ (by assumption)) hbw) (by have := hb.size; simp at this; omega))) | (simp only [↓IntWalk.iteOmega]; (try go_simp); exact rfl)
        simp only [Act.put, List.setIfInBounds_toArray, List.set_cons_zero, List.set_cons_succ, List.nil_append, List.cons_append]
      iterate 4
        first
          | (refine Free.E.no ?_ ?_
             (intro _; rfl)
             simp only [Act.put, List.setIfInBounds_toArray, List.set_cons_zero, List.set_cons_succ, List.nil_append, List.cons_append])
          | (refine Free.E.qy ?_ ?_
             (intro _; rfl)
             apply Exists.intro
             refine ⟨fun u w' hc hb => ?_, ?_⟩
             go_simp
             (try go_ints); (try simp only [Ob.ite_imx, Ob.ite_imn]); first | exact rfl | (go_simp; exact rfl) | ((go_at_call 12; exact HF.out _)) | ((go_at_call 15; exact HE.out _ (HO.out.below (by repeat' first | with_reducible exact Below.refl _ _ | with_reducible assumption | with_reducible refine Free.Grow.alloc ?_ _ | with_reducible refine Free.Grow.setCell ?_ (by first | omega | (simp; done) | (simp; omega)) _ | with_reducible refine Free.Grow.drew ?_ | with_reducible refine Free.Grow.trans ?_ (by assumption))))) | ((go_at_call 27; exact HL.out _ (hmem.below (B := w.heap.size) (by repeat' first | with_reducible exact Below.refl _ _ | with_reducible assumption | with_reducible refine Free.Grow.alloc ?_ _ | with_reducible refine Free.Grow.setCell ?_ (by first | omega | (simp; done) | (simp; omega)) _ | with_reducible refine Free.Grow.drew ?_ | with_reducible refine Free.Grow.trans ?_ (by assumption)) hbw) (by have := hb.size; simp at this; omega))) | ((go_at_call 26; exact HF1.out _ (hmem.below (B := w.heap.size) (by repeat' first | with_reducible exact Below.refl _ _ | with_reducible assumption | with_reducible refine Free.Grow.alloc ?_ _ | with_reducible refine Free.Grow.setCell ?_ (by first | omega | (simp; done) | (simp; omega)) _ | with_reducible refine Free.Grow.drew ?_ | with_reducible refine Free.Grow.trans ?_ (by assumption)) hbw) (by have := hb.size; simp at this; omega))) | (simp only [↓IntWalk.iteOmega]; (try go_simp); exact rfl)
             simp only [Act.put, List.setIfInBounds_toArray, List.set_cons_zero, List.set_cons_succ, List.nil_append, List.cons_append])
      iterate 6
        first
          | (refine Free.E.no ?_ ?_
             (intro _; rfl)
             simp only [Act.put, List.setIfInBounds_toArray, List.set_cons_zero, List.set_cons_succ, List.nil_append, List.cons_append])
          | (refine Free.E.qy ?_ ?_
             (intro _; rfl)
             apply Exists.intro
             refine ⟨fun u w' hc hb => ?_, ?_⟩
             go_simp
             (try go_ints); (try simp only [Ob.ite_imx, Ob.ite_imn]); first | exact rfl | (go_simp; exact rfl) | ((go_at_call 12; exact HF.out _)) | ((go_at_call 15; exact HE.out _ (HO.out.below (by repeat' first | with_reducible exact Below.refl _ _ | with_reducible assumption | with_reducible refine Free.Grow.alloc ?_ _ | with_reducible refine Free.Grow.setCell ?_ (by first | omega | (simp; done) | (simp; omega)) _ | with_reducible refine Free.Grow.drew ?_ | with_reducible refine Free.Grow.trans ?_ (by assumption))))) | ((go_at_call 27; exact HL.out _ (hmem.below (B := w.heap.size) (by repeat' first | with_reducible exact Below.refl _ _ | with_reducible assumption | with_reducible refine Free.Grow.alloc ?_ _ | with_reducible refine Free.Grow.setCell ?_ (by first | omega | (simp; done) | (simp; omega)) _ | with_reducible refine Free.Grow.drew ?_ | with_reducible refine Free.Grow.trans ?_ (by assumption)) hbw) (by have := hb.size; simp at this; omega))) | ((go_at_call 26; exact HF1.out _ (hmem.below (B := w.heap.size) (by repeat' first | with_reducible exact Below.refl _ _ | with_reducible assumption | with_reducible refine Free.Grow.alloc ?_ _ | with_reducible refine Free.Grow.setCell ?_ (by first | omega | (simp; done) | (simp; omega)) _ | with_reducible refine Free.Grow.drew ?_ | with_reducible refine Free.Grow.trans ?_ (by assumption)) hbw) (by have := hb.size; simp at this; omega))) | (simp only [↓IntWalk.iteOmega]; (try go_simp); exact rfl)
             simp only [Act.put, List.setIfInBounds_toArray, List.set_cons_zero, List.set_cons_succ, List.nil_append, List.cons_append])
      iterate 1
        first
          | (refine Free.E.no ?_ ?_
             (intro _; rfl)
             simp only [Act.put, List.setIfInBounds_toArray, List.set_cons_zero, List.set_cons_succ, List.nil_append, List.cons_append])
          | (refine Free.E.qy ?_ ?_
             (intro _; rfl)
             apply Exists.intro
             refine ⟨fun u w' hc hb => ?_, ?_⟩
             go_simp
             (try go_ints); (try simp only [Ob.ite_imx, Ob.ite_imn]); first | exact rfl | (go_simp; exact rfl) | ((go_at_call 12; exact HF.out _)) | ((go_at_call 15; exact HE.out _ (HO.out.below (by repeat' first | with_reducible exact Below.refl _ _ | with_reducible assumption | with_reducible refine Free.Grow.alloc ?_ _ | with_reducible refine Free.Grow.setCell ?_ (by first | omega | (simp; done) | (simp; omega)) _ | with_reducible refine Free.Grow.drew ?_ | with_reducible refine Free.Grow.trans ?_ (by assumption))))) | ((go_at_call 27; exact HL.out _ (hmem.below (B := w.heap.size) (by repeat' first | with_reducible exact Below.refl _ _ | with_reducible assumption | with_reducible refine Free.Grow.alloc ?_ _ | with_reducible refine Free.Grow.setCell ?_ (by first | omega | (simp; done) | (simp; omega)) _ | with_reducible refine Free.Grow.drew ?_ | with_reducible refine Free.Grow.trans ?_ (by assumption)) hbw) (by have := hb.size; simp at this; omega))) | ((go_at_call 26; exact HF1.out _ (hmem.below (B := w.heap.size) (by repeat' first | with_reducible exact Below.refl _ _ | with_reducible assumption | with_reducible refine Free.Grow.alloc ?_ _ | with_reducible refine Free.Grow.setCell ?_ (by first | omega | (simp; done) | (simp; omega)) _ | with_reducible refine Free.Grow.drew ?_ | with_reducible refine Free.Grow.trans ?_ (by assumption)) hbw) (by have := hb.size; simp at this; omega))) | (simp only [↓IntWalk.iteOmega]; (try go_simp); exact rfl)
             simp only [Act.put, List.setIfInBounds_toArray, List.set_cons_zero, List.set_cons_succ, List.nil_append, List.cons_append])
      iterate 2
        refine Free.E.q (by rfl) ?_
        apply Exists.intro
        refine ⟨fun u w' hc hb => ?_, ?_⟩
        go_simp
        (try go_ints); (try simp only [Ob.ite_imx, Ob.ite_imn]); first | exact rfl | (go_simp; exact rfl) | ((go_at_call 12; exact HF.out _)) | ((go_at_call 15; exact HE.out _ (HO.out.below (by repeat' first | with_reducible exact Below.refl _ _ | with_reducible assumption | with_reducible refine Free.Grow.alloc ?_ _ | with_reducible refine Free.Grow.setCell ?_ (by first | omega | (simp; done) | (simp; omega)) _ | with_reducible refine Free.Grow.drew ?_ | with_reducible refine Free.Grow.trans ?_ (by assumption))))) | ((go_at_call 27; exact HL.out _ (hmem.below (B := w.heap.size) (by repeat' first | with_reducible exact Below.refl _ _ | with_reducible assumption | with_reducible refine Free.Grow.alloc ?_ _ | with_reducible refine Free.Grow.setCell ?_ (by first | omega | (simp; done) | (simp; omega)) _ | with_reducible refine Free.Grow.drew ?_ | with_reducible refine Free.Grow.trans ?_ (by assumption)) hbw) (by have := hb.size; simp at this; omega))) | ((go_at_call 26; exact HF1.out _ (hmem.below (B := w.heap.size) (by repeat' first | with_reducible exact Below.refl _ _ | with_reducible assumption | with_reducible refine Free.Grow.alloc ?_ _ | with_reducible refine Free.Grow.setCell ?_ (by first | omega | (simp; done) | (simp; omega)) _ | with_reducible refine Free.Grow.drew ?_ | with_reducible refine Free.Grow.trans ?_ (by assumption)) hbw) (by have := hb.size; simp at this; omega))) | (simp only [↓IntWalk.iteOmega]; (try go_simp); exact rfl)
        simp only [Act.put, List.setIfInBounds_toArray, List.set_cons_zero, List.set_cons_succ, List.nil_append, List.cons_append]
      refine Free.E.nil (fun u w1 S hF => ?_)
      have hb1 := hF.below
      clear hF
      have hc1 := (Free.cells_of hb1).1
      have hf1 := (Free.cells_of hb1).2
      have hz1 := hb1.size
      try simp only [World.size_alloc, World.size_setCell, World.size_drew] at hz1
      (try (have : w.heap.size < w1.heap.size := (by omega)))
      (try (have : w.heap.size < w1.heap.size + 1 := (by omega)))
      (try (have : w.heap.size < w1.heap.size + 1 + 1 := (by omega)))
      (try (have : w.heap.size + 1 < w1.heap.size := (by omega)))
      (try (have : w.heap.size + 1 < w1.heap.size + 1 := (by omega)))
      (try (have : w.heap.size + 1 < w1.heap.size + 1 + 1 := (by omega)))
      (try (have : w.heap.size + 1 + 1 < w1.heap.size := (by omega)))
      (try (have : w.heap.size + 1 + 1 < w1.heap.size + 1 := (by omega)))
      (try (have : w.heap.size + 1 + 1 < w1.heap.size + 1 + 1 := (by omega)))
      (try (have : w.heap.size + 1 + 1 + 1 < w1.heap.size := (by omega)))
      (try (have : w.heap.size + 1 + 1 + 1 < w1.heap.size + 1 := (by omega)))
      (try (have : w.heap.size + 1 + 1 + 1 < w1.heap.size + 1 + 1 := (by omega)))
      simp only [List.drop_succ_cons, List.drop_zero, List.drop_nil]
      go_wp2
      first | (go_ret; exact HR.out _ (by repeat' first | with_reducible exact Below.refl _ _ | with_reducible assumption | with_reducible refine Free.Grow.alloc ?_ _ | with_reducible refine Free.Grow.setCell ?_ (by first | omega | (simp; done) | (simp; omega)) _ | with_reducible refine Free.Grow.drew ?_ | with_reducible refine Free.Grow.trans ?_ (by assumption))) | exact HR.out _ (by repeat' first | with_reducible exact Below.refl _ _ | with_reducible assumption | with_reducible refine Free.Grow.alloc ?_ _ | with_reducible refine Free.Grow.setCell ?_ (by first | omega | (simp; done) | (simp; omega)) _ | with_reducible refine Free.Grow.drew ?_ | with_reducible refine Free.Grow.trans ?_ (by assumption))
  · have hb0 : ((orbE nm.data.toList bd l).2 != 0) = true := by simpa using h
    have HR := Lib.hid (HQ.out true (by simp [briefB, h]))
    have HO := Lib.hid hO
    clear h hO HQ
    generalize (orbE nm.data.toList bd l).2 = c at *
    go_enter Tryz.func21, Tryz.ntmps21
    go_wp2
    refine Free.wp_region 16 #[0, 1, 3, 7, 15, 31, 63, 127, 255, 127, 1023, 2047, 4095, 8191, 16383, 32767] (by kernel_rfl) (by kernel_rfl) ?_
    simp only [List.take_succ_cons, List.take_zero]
    iterate 3
      refine Free.E.q (by rfl) ?_
      apply Exists.intro
      refine ⟨fun u w' hc hb => ?_, ?_⟩
      go_simp
      (try go_ints); (try simp only [Ob.ite_imx, Ob.ite_imn]); first | exact rfl | (go_simp; exact rfl) | ((go_at_call 12; exact HF.out _)) | ((go_at_call 15; exact HE.out _ (HO.out.below (by repeat' first | with_reducible exact Below.refl _ _ | with_reducible assumption | with_reducible refine Free.Grow.alloc ?_ _ | with_reducible refine Free.Grow.setCell ?_ (by first | omega | (simp; done) | (simp; omega)) _ | with_reducible refine Free.Grow.drew ?_ | with_reducible refine Free.Grow.trans ?_ (by assumption))))) | (simp only [↓IntWalk.iteOmega]; (try go_simp); exact rfl)
      simp only [Act.put, List.setIfInBounds_toArray, List.set_cons_zero, List.set_cons_succ, List.nil_append, List.cons_append]
    iterate 4
      first
        | (refine Free.E.no ?_ ?_
           (intro _; rfl)
           simp only [Act.put, List.setIfInBounds_toArray, List.set_cons_zero, List.set_cons_succ, List.nil_append, List.cons_append])
        | (refine Free.E.qy ?_ ?_
           (intro _; rfl)
           apply Exists.intro
           refine ⟨fun u w' hc hb => ?_, ?_⟩
           go_simp
           (try go_ints); (try simp only [Ob.ite_imx, Ob.ite_imn]); first | exact rfl | (go_simp; exact rfl) | ((go_at_call 12; exact HF.out _)) | ((go_at_call 15; exact HE.out _ (HO.out.below (by repeat' first | with_reducible exact Below.refl _ _ | with_reducible assumption | with_reducible refine Free.Grow.alloc ?_ _ | with_reducible refine Free.Grow.setCell ?_ (by first | omega | (simp; done) | (simp; omega)) _ | with_reducible refine Free.Grow.drew ?_ | with_reducible refine Free.Grow.trans ?_ (by assumption))))) | (simp only [↓IntWalk.iteOmega]; (try go_simp); exact rfl)
           simp only [Act.put, List.setIfInBounds_toArray, List.set_cons_zero, List.set_cons_succ, List.nil_append, List.cons_append])
    iterate 6
      first
        | (refine Free.E.no ?_ ?_
           (intro _; rfl)
           simp only [Act.put, List.setIfInBounds_toArray, List.set_cons_zero, List.set_cons_succ, List.nil_append, List.cons_append])
        | (refine Free.E.qy ?_ ?_
           (intro _; rfl)
           apply Exists.intro
           refine ⟨fun u w' hc hb => ?_, ?_⟩
           go_simp
           (try go_ints); (try simp only [Ob.ite_imx, Ob.ite_imn]); first | exact rfl | (go_simp; exact rfl) | ((go_at_call 12; exact HF.out _)) | ((go_at_call 15; exact HE.out _ (HO.out.below (by repeat' first | with_reducible exact Below.refl _ _ | with_reducible assumption | with_reducible refine Free.Grow.alloc ?_ _ | with_reducible refine Free.Grow.setCell ?_ (by first | omega | (simp; done) | (simp; omega)) _ | with_reducible refine Free.Grow.drew ?_ | with_reducible refine Free.Grow.trans ?_ (by assumption))))) | (simp only [↓IntWalk.iteOmega]; (try go_simp); exact rfl)
           simp only [Act.put, List.setIfInBounds_toArray, List.set_cons_zero, List.set_cons_succ, List.nil_append, List.cons_append])
    iterate 1
      first
        | (refine Free.E.no ?_ ?_
           (intro _; rfl)
           simp only [Act.put, List.setIfInBounds_toArray, List.set_cons_zero, List.set_cons_succ, List.nil_append, List.cons_append])
        | (refine Free.E.qy ?_ ?_
           (intro _; rfl)
           apply Exists.intro
           refine ⟨fun u w' hc hb => ?_, ?_⟩
           go_simp
           (try go_ints); (try simp only [Ob.ite_imx, Ob.ite_imn]); first | exact rfl | (go_simp; exact rfl) | ((go_at_call 12; exact HF.out _)) | ((go_at_call 15; exact HE.out _ (HO.out.below (by repeat' first | with_reducible exact Below.refl _ _ | with_reducible assumption | with_reducible refine Free.Grow.alloc ?_ _ | with_reducible refine Free.Grow.setCell ?_ (by first | omega | (simp; done) | (simp; omega)) _ | with_reducible refine Free.Grow.drew ?_ | with_reducible refine Free.Grow.trans ?_ (by assumption))))) | (simp only [↓IntWalk.iteOmega]; (try go_simp); exact rfl)
           simp only [Act.put, List.setIfInBounds_toArray, List.set_cons_zero, List.set_cons_succ, List.nil_append, List.cons_append])
    iterate 2
      refine Free.E.q (by rfl) ?_
      apply Exists.intro
      refine ⟨fun u w' hc hb => ?_, ?_⟩
      go_simp
      (try go_ints); (try simp only [Ob.ite_imx, Ob.ite_imn]); first | exact rfl | (go_simp; exact rfl) | ((go_at_call 12; exact HF.out _)) | ((go_at_call 15; exact HE.out _ (HO.out.below (by repeat' first | with_reducible exact Below.refl _ _ | with_reducible assumption | with_reducible refine Free.Grow.alloc ?_ _ | with_reducible refine Free.Grow.setCell ?_ (by first | omega | (simp; done) | (simp; omega)) _ | with_reducible refine Free.Grow.drew ?_ | with_reducible refine Free.Grow.trans ?_ (by assumption))))) | (simp only [↓IntWalk.iteOmega]; (try go_simp); exact rfl)
      simp only [Act.put, List.setIfInBounds_toArray, List.set_cons_zero, List.set_cons_succ, List.nil_append, List.cons_append]
    refine Free.E.nil (fun u w1 S hF => ?_)
    have hb1 := hF.below
    clear hF
    have hc1 := (Free.cells_of hb1).1
    have hf1 := (Free.cells_of hb1).2
    have hz1 := hb1.size
    try simp only [World.size_alloc, World.size_setCell, World.size_drew] at hz1
    (try (have : w.heap.size < w1.heap.size := (by omega)))
    (try (have : w.heap.size < w1.heap.size + 1 := (by omega)))
    (try (have : w.heap.size < w1.heap.size + 1 + 1 := (by omega)))
    (try (have : w.heap.size + 1 < w1.heap.size := (by omega)))
    (try (have : w.heap.size + 1 < w1.heap.size + 1 := (by omega)))
    (try (have : w.heap.size + 1 < w1.heap.size + 1 + 1 := (by omega)))
    (try (have : w.heap.size + 1 + 1 < w1.heap.size := (by omega)))
    (try (have : w.heap.size + 1 + 1 < w1.heap.size + 1 := (by omega)))
    (try (have : w.heap.size + 1 + 1 < w1.heap.size + 1 + 1 := (by omega)))
    (try (have : w.heap.size + 1 + 1 + 1 < w1.heap.size := (by omega)))
    (try (have : w.heap.size + 1 + 1 + 1 < w1.heap.size + 1 := (by omega)))
    (try (have : w.heap.size + 1 + 1 + 1 < w1.heap.size + 1 + 1 := (by omega)))
    simp only [List.drop_succ_cons, List.drop_zero, List.drop_nil]
    go_wp2
    first | (go_ret; exact HR.out _ (by repeat' first | with_reducible exact Below.refl _ _ | with_reducible assumption | with_reducible refine Free.Grow.alloc ?_ _ | with_reducible refine Free.Grow.setCell ?_ (by first | omega | (simp; done) | (simp; omega)) _ | with_reducible refine Free.Grow.drew ?_ | with_reducible refine Free.Grow.trans ?_ (by assumption))) | exact HR.out _ (by repeat' first | with_reducible exact Below.refl _ _ | with_reducible assumption | with_reducible refine Free.Grow.alloc ?_ _ | with_reducible refine Free.Grow.setCell ?_ (by first | omega | (simp; done) | (simp; omega)) _ | with_reducible refine Free.Grow.drew ?_ | with_reducible refine Free.Grow.trans ?_ (by assumption))
end Go.Proofs.YthhhkjbhhjcjoaaGreatDoor
