/- Chapter 2: Nominal, BoxAt of the program. -/
import Derived.Test.YthhhkjbhhjcjoaaGreatDoor02h
import Derived.Test.YthhhkjbhhjcjoaaGreatDoor02Spec5
set_option linter.unusedSimpArgs false
set_option linter.unusedVariables false
namespace Go.Proofs.YthhhkjbhhjcjoaaGreatDoor
open Go.RowKit Go.Ob

theorem zero_box (w : World) : (Instr.build 64 #[]).run Tryz.prog w = .ok (.agg #[.int .i64 0, .int .i64 0, .int .i64 0, .int .i64 0, .int .i64 0, .int .i64 0]) w := by kernel_rfl
attribute [go_sem] zero_box
theorem Calls.made {P : Program} {f : FuncId} {args : Array Value} {w : World} {v : Value} (h : ∀ R : Ending → World → Prop, Hid (∀ w', Below w.heap.size w w' → R (.returned v) w') → Calls P f args w R) :
    Calls P f args w fun e w' => e = .returned v ∧ Below w.heap.size w w' := h _ (fun _ hb => ⟨rfl, hb⟩)
theorem Calls.same {P : Program} {f : FuncId} {args : Array Value} {w : World} {v : Value} (h : ∀ R : Ending → World → Prop, Hid (R (.returned v) w) → Calls P f args w R) :
    Calls P f args w fun e w' => e = .returned v ∧ w = w' := h _ ⟨rfl, rfl⟩
/-- An orbit in memory: what a call may be handed. -/
structure OrbIn (w : World) (nm : ByteArray) (a : Option Addr) (cap : Nat) (l : List St) : Prop where
  nm : nm.size ≤ 1000
  sts : SlSts w a l
  cap : l.length ≤ cap
  len : (l.length : Int) ≤ 9223372036854775807
theorem OrbIn.below {w w' : World} {nm : ByteArray} {a : Option Addr} {cap : Nat} {l : List St} (h : OrbIn w nm a cap l) (hb : Below w.heap.size w w') : OrbIn w' nm a cap l := ⟨h.nm, h.sts.below hb, h.cap, h.len⟩

theorem atE_zero {nm : List UInt8} {bd t : Int} {l : List St} (h : atE nm bd l t = 0) : Right bd l ∧ frstT l ≤ t ∧ t ≤ lastT l := by
  unfold atE at h
  split at h
  · rename_i h1; exact absurd h h1
  · rename_i h1
    have h1' : (orbE nm bd l).2 = 0 := by simpa using h1
    split at h
    · rename_i h2; exact ⟨(orbE_right h1').1, h2⟩
    · exact absurd h (by decide)

theorem OrbIn.mem {w : World} {nm : ByteArray} {a : Option Addr} {cap : Nat} {l : List St} (h : OrbIn w nm a cap l) {bd : Int} (hR : Right bd l) : ∃ b off, a = some ⟨b, off, none⟩ ∧ b < w.heap.size ∧ HasSts w b off l :=
  h.sts.mem (by intro e; have := hR.n2; rw [e] at this; simp at this)

def bxOr (nm : List UInt8) (bd : Int) (l : List St) (t : Int) : Bx := if atE nm bd l t = 0 then bx bd l t else ⟨0, 0, 0, 0, 0, 0⟩

set_option maxRecDepth 100000 in
set_option maxHeartbeats 2000000 in
theorem BoxAt_any (nm : ByteArray) (bd t : Int) (a : Option Addr) (cap : Nat) (l : List St) (w : World) (hO : OrbIn w nm a cap l) :
    Calls Tryz.prog 29 #[obV nm bd a l.length cap, .int .i64 t] w fun e w' => e = .returned (.tuple #[bxV (bxOr nm.data.toList bd l t), .int .i64 (atE nm.data.toList bd l t)]) ∧ Below w.heap.size w w' := by
  have HA := Lib.hid (fun w' (h : OrbIn w' nm a cap l) => at_any nm bd t a cap l w' h.nm h.sts h.cap h.len)
  by_cases h : atE nm.data.toList bd l t = 0
  · obtain ⟨hR, h0, h1⟩ := atE_zero h
    obtain ⟨b, off, rfl, hbw, hmem⟩ := hO.mem hR
    have hb0 : (atE nm.data.toList bd l t != 0) = false := by simp [h]
    have HN : bxOr nm.data.toList bd l t = bx bd l t := by unfold bxOr; rw [if_pos h]
    rw [HN, h]
    clear HN
    have HE := Lib.hid h
    have HC := Lib.hid (fun w' (hS' : HasSts w' b off l) (hb' : b < w'.heap.size) => box_any nm bd t b off cap l w' hR h0 h1 hS' hb' hO.cap)
    have HO := Lib.hid hO
    clear h hO h0 h1
    refine Calls.made fun R HR => ?_
    go_enter Tryz.func29, Tryz.ntmps29
    go_wp2_with (first | (go_at_call 73; refine (HA.out _ (HO.out.below (by repeat' first | with_reducible exact Below.refl _ _ | with_reducible assumption | with_reducible refine Free.Grow.alloc ?_ _ | with_reducible refine Free.Grow.setCell ?_ (by first | omega | (simp; done) | (simp; omega)) _ | with_reducible refine Free.Grow.drew ?_ | with_reducible refine Free.Grow.trans ?_ (by assumption)))).mono ?_; rintro e w1 ⟨rfl, hb1⟩; have hc1 := (Free.cells_of hb1).1; have hf1 := (Free.cells_of hb1).2; have hz1 := hb1.size; (try simp only [World.size_alloc, World.size_setCell, World.size_drew] at hz1); (try (have : w.heap.size < w1.heap.size := (by omega))); (try (have : w.heap.size < w1.heap.size + 1 := (by omega))); (try (have : w.heap.size < w1.heap.size + 1 + 1 := (by omega))); (try (have : w.heap.size + 1 < w1.heap.size := (by omega))); (try (have : w.heap.size + 1 < w1.heap.size + 1 := (by omega))); (try (have : w.heap.size + 1 < w1.heap.size + 1 + 1 := (by omega))); (try (have : w.heap.size + 1 + 1 < w1.heap.size := (by omega))); (try (have : w.heap.size + 1 + 1 < w1.heap.size + 1 := (by omega))); (try (have : w.heap.size + 1 + 1 < w1.heap.size + 1 + 1 := (by omega))); (try (have : w.heap.size + 1 + 1 + 1 < w1.heap.size := (by omega))); (try (have : w.heap.size + 1 + 1 + 1 < w1.heap.size + 1 := (by omega))); (try (have : w.heap.size + 1 + 1 + 1 < w1.heap.size + 1 + 1 := (by omega)))) | (go_at_call 69; refine (HC.out _ (hmem.below (B := w.heap.size) (by repeat' first | with_reducible exact Below.refl _ _ | with_reducible assumption | with_reducible refine Free.Grow.alloc ?_ _ | with_reducible refine Free.Grow.setCell ?_ (by first | omega | (simp; done) | (simp; omega)) _ | with_reducible refine Free.Grow.drew ?_ | with_reducible refine Free.Grow.trans ?_ (by assumption)) hbw) (by simp; omega)).mono ?_; rintro e w2 ⟨rfl, hb2⟩; have hc2 := (Free.cells_of hb2).1; have hf2 := (Free.cells_of hb2).2; have hz2 := hb2.size; (try simp only [World.size_alloc, World.size_setCell, World.size_drew] at hz2); (try (have : w.heap.size < w2.heap.size := (by omega))); (try (have : w.heap.size < w2.heap.size + 1 := (by omega))); (try (have : w.heap.size < w2.heap.size + 1 + 1 := (by omega))); (try (have : w.heap.size + 1 < w2.heap.size := (by omega))); (try (have : w.heap.size + 1 < w2.heap.size + 1 := (by omega))); (try (have : w.heap.size + 1 < w2.heap.size + 1 + 1 := (by omega))); (try (have : w.heap.size + 1 + 1 < w2.heap.size := (by omega))); (try (have : w.heap.size + 1 + 1 < w2.heap.size + 1 := (by omega))); (try (have : w.heap.size + 1 + 1 < w2.heap.size + 1 + 1 := (by omega))); (try (have : w.heap.size + 1 + 1 + 1 < w2.heap.size := (by omega))); (try (have : w.heap.size + 1 + 1 + 1 < w2.heap.size + 1 := (by omega))); (try (have : w.heap.size + 1 + 1 + 1 < w2.heap.size + 1 + 1 := (by omega))); (try (have : w1.heap.size < w2.heap.size := (by omega))); (try (have : w1.heap.size < w2.heap.size + 1 := (by omega))); (try (have : w1.heap.size < w2.heap.size + 1 + 1 := (by omega))); (try (have : w1.heap.size + 1 < w2.heap.size := (by omega))); (try (have : w1.heap.size + 1 < w2.heap.size + 1 := (by omega))); (try (have : w1.heap.size + 1 < w2.heap.size + 1 + 1 := (by omega))); (try (have : w1.heap.size + 1 + 1 < w2.heap.size := (by omega))); (try (have : w1.heap.size + 1 + 1 < w2.heap.size + 1 := (by omega))); (try (have : w1.heap.size + 1 + 1 < w2.heap.size + 1 + 1 := (by omega))); (try (have : w1.heap.size + 1 + 1 + 1 < w2.heap.size := (by omega))); (try (have : w1.heap.size + 1 + 1 + 1 < w2.heap.size + 1 := (by omega))); (try (have : w1.heap.size + 1 + 1 + 1 < w2.heap.size + 1 + 1 := (by omega)))))
    refine bodyPost_ret (v := .tuple #[bxV (bx bd l t), .int .i64 0]) (by simp [results, Tryz.results29, go_sem, *]) rfl ?_
    exact HR.out _ (by repeat' first | with_reducible exact Below.refl _ _ | with_reducible assumption | with_reducible refine Free.Grow.alloc ?_ _ | with_reducible refine Free.Grow.setCell ?_ (by first | omega | (simp; done) | (simp; omega)) _ | with_reducible refine Free.Grow.drew ?_ | with_reducible refine Free.Grow.trans ?_ (by assumption))
  · have hb0 : (atE nm.data.toList bd l t != 0) = true := by simpa using h
    have HN : bxOr nm.data.toList bd l t = ⟨0, 0, 0, 0, 0, 0⟩ := by unfold bxOr; rw [if_neg h]
    rw [HN]
    clear HN
    have HO := Lib.hid hO
    clear h hO
    generalize atE nm.data.toList bd l t = c at *
    refine Calls.made fun R HR => ?_
    go_enter Tryz.func29, Tryz.ntmps29
    go_wp2_with fail
    (refine (HA.out _ (HO.out.below (by repeat' first | with_reducible exact Below.refl _ _ | with_reducible assumption | with_reducible refine Free.Grow.alloc ?_ _ | with_reducible refine Free.Grow.setCell ?_ (by first | omega | (simp; done) | (simp; omega)) _ | with_reducible refine Free.Grow.drew ?_ | with_reducible refine Free.Grow.trans ?_ (by assumption)))).mono ?_; rintro e w1 ⟨rfl, hb1⟩; have hc1 := (Free.cells_of hb1).1; have hf1 := (Free.cells_of hb1).2; have hz1 := hb1.size; (try simp only [World.size_alloc, World.size_setCell, World.size_drew] at hz1); (try (have : w.heap.size < w1.heap.size := (by omega))); (try (have : w.heap.size < w1.heap.size + 1 := (by omega))); (try (have : w.heap.size < w1.heap.size + 1 + 1 := (by omega))); (try (have : w.heap.size + 1 < w1.heap.size := (by omega))); (try (have : w.heap.size + 1 < w1.heap.size + 1 := (by omega))); (try (have : w.heap.size + 1 < w1.heap.size + 1 + 1 := (by omega))); (try (have : w.heap.size + 1 + 1 < w1.heap.size := (by omega))); (try (have : w.heap.size + 1 + 1 < w1.heap.size + 1 := (by omega))); (try (have : w.heap.size + 1 + 1 < w1.heap.size + 1 + 1 := (by omega))); (try (have : w.heap.size + 1 + 1 + 1 < w1.heap.size := (by omega))); (try (have : w.heap.size + 1 + 1 + 1 < w1.heap.size + 1 := (by omega))); (try (have : w.heap.size + 1 + 1 + 1 < w1.heap.size + 1 + 1 := (by omega))))
    go_simp
    refine (‹∀ (a : Act) (w : World), wpList _ _ _ _ a w → _› _ _ ?_)
    repeat go_step
    refine bodyPost_ret (v := .tuple #[bxV ⟨0, 0, 0, 0, 0, 0⟩, .int .i64 c]) (by simp [results, Tryz.results29, go_sem, *]) rfl ?_
    exact HR.out _ (by repeat' first | with_reducible exact Below.refl _ _ | with_reducible assumption | with_reducible refine Free.Grow.alloc ?_ _ | with_reducible refine Free.Grow.setCell ?_ (by first | omega | (simp; done) | (simp; omega)) _ | with_reducible refine Free.Grow.drew ?_ | with_reducible refine Free.Grow.trans ?_ (by assumption))
end Go.Proofs.YthhhkjbhhjcjoaaGreatDoor
