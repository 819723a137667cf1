/- Chapter 2: Nominal, BoxAt of the program. -/
/- Chapter 2: the reference's small functions: what each call returns. -/
/- Chapter 2: the reference's checks. -/
import Derived.Test.YthhhkjbhhjcjoaaGreatDoor02h
import Derived.Test.YthhhkjbhhjcjoaaGreatDoor02Spec
set_option linter.unusedSimpArgs false
set_option linter.unusedVariables false
section
namespace Go.Proofs.YthhhkjbhhjcjoaaGreatDoor
open Go.RowKit Go.Ob

theorem zero_box (w : World) : (Instr.build 64 #[]).run Tryz.prog w = .ok (.agg #[.int .i64 0, .int .i64 0, .int .i64 0, .int .i64 0, .int .i64 0, .int .i64 0]) w := by kernel_rfl
attribute [go_sem] zero_box
theorem Calls.made {P : Program} {f : FuncId} {args : Array Value} {w : World} {v : Value} (h : ∀ R : Ending → World → Prop, Hid (∀ w', Below w.heap.size w w' → R (.returned v) w') → Calls P f args w R) :
    Calls P f args w fun e w' => e = .returned v ∧ Below w.heap.size w w' := h _ (fun _ hb => ⟨rfl, hb⟩)
theorem Calls.same {P : Program} {f : FuncId} {args : Array Value} {w : World} {v : Value} (h : ∀ R : Ending → World → Prop, Hid (R (.returned v) w) → Calls P f args w R) :
    Calls P f args w fun e w' => e = .returned v ∧ w = w' := h _ ⟨rfl, rfl⟩
/-- An orbit in memory: what a call may be handed. -/
structure OrbIn (w : World) (nm : ByteArray) (a : Option Addr) (cap : Nat) (l : List St) : Prop where
  nm : nm.size ≤ 1000
  sts : SlSts w a l
  cap : l.length ≤ cap
  len : (l.length : Int) ≤ 9223372036854775807
theorem OrbIn.below {w w' : World} {nm : ByteArray} {a : Option Addr} {cap : Nat} {l : List St} (h : OrbIn w nm a cap l) (hb : Below w.heap.size w w') : OrbIn w' nm a cap l := ⟨h.nm, h.sts.below hb, h.cap, h.len⟩

theorem atE_zero {nm : List UInt8} {bd t : Int} {l : List St} (h : atE nm bd l t = 0) : Right bd l ∧ frstT l ≤ t ∧ t ≤ lastT l := by
  unfold atE at h
  split at h
  · rename_i h1; exact absurd h h1
  · rename_i h1
    have h1' : (orbE nm bd l).2 = 0 := by simpa using h1
    split at h
    · rename_i h2; exact ⟨(orbE_right h1').1, h2⟩
    · exact absurd h (by decide)

theorem OrbIn.mem {w : World} {nm : ByteArray} {a : Option Addr} {cap : Nat} {l : List St} (h : OrbIn w nm a cap l) {bd : Int} (hR : Right bd l) : ∃ b off, a = some ⟨b, off, none⟩ ∧ b < w.heap.size ∧ HasSts w b off l :=
  h.sts.mem (by intro e; have := hR.n2; rw [e] at this; simp at this)

def bxOr (nm : List UInt8) (bd : Int) (l : List St) (t : Int) : Bx := if atE nm bd l t = 0 then bx bd l t else ⟨0, 0, 0, 0, 0, 0⟩

set_option maxRecDepth 100000 in
set_option maxHeartbeats 2000000 in
theorem BoxAt_any (nm : ByteArray) (bd t : Int) (a : Option Addr) (cap : Nat) (l : List St) (w : World) (hO : OrbIn w nm a cap l) :
    Calls Tryz.prog 29 #[obV nm bd a l.length cap, .int .i64 t] w fun e w' => e = .returned (.tuple #[bxV (bxOr nm.data.toList bd l t), .int .i64 (atE nm.data.toList bd l t)]) ∧ Below w.heap.size w w' := by
  have HA := Lib.hid (fun w' (h : OrbIn w' nm a cap l) => at_any nm bd t a cap l w' h.nm h.sts h.cap h.len)
  by_cases h : atE nm.data.toList bd l t = 0
  · obtain ⟨hR, h0, h1⟩ := atE_zero h
    obtain ⟨b, off, rfl, hbw, hmem⟩ := hO.mem hR
    have hb0 : (atE nm.data.toList bd l t != 0) = false := by simp [h]
    have HN : bxOr nm.data.toList bd l t = bx bd l t := by unfold bxOr; rw [if_pos h]
    rw [HN, h]
    clear HN
    have HE := Lib.hid h
    have HC := Lib.hid (fun w' (hS' : HasSts w' b off l) (hb' : b < w'.heap.size) => box_any nm bd t b off cap l w' hR h0 h1 hS' hb' hO.cap)
    have HO := Lib.hid hO
    clear h hO h0 h1
    refine Calls.made fun R HR => ?_
    go_enter Tryz.func29, Tryz.ntmps29
    go_wp2_with (first | (go_at_call 73; refine (HA.out _ (HO.out.below (by repeat' first | with_reducible exact Below.refl _ _ | with_reducible assumption | with_reducible refine Free.Grow.alloc ?_ _ | with_reducible refine Free.Grow.setCell ?_ (by first | omega | (simp; done) | (simp; omega)) _ | with_reducible refine Free.Grow.drew ?_ | with_reducible refine Free.Grow.trans ?_ (by assumption)))).mono ?_; rintro e w1 ⟨rfl, hb1⟩; have hc1 := (Free.cells_of hb1).1; have hf1 := (Free.cells_of hb1).2; have hz1 := hb1.size; (try simp only [World.size_alloc, World.size_setCell, World.size_drew] at hz1); (try (have : w.heap.size < w1.heap.size := (by omega))); (try (have : w.heap.size < w1.heap.size + 1 := (by omega))); (try (have : w.heap.size < w1.heap.size + 1 + 1 := (by omega))); (try (have : w.heap.size + 1 < w1.heap.size := (by omega))); (try (have : w.heap.size + 1 < w1.heap.size + 1 := (by omega))); (try (have : w.heap.size + 1 < w1.heap.size + 1 + 1 := (by omega))); (try (have : w.heap.size + 1 + 1 < w1.heap.size := (by omega))); (try (have : w.heap.size + 1 + 1 < w1.heap.size + 1 := (by omega))); (try (have : w.heap.size + 1 + 1 < w1.heap.size + 1 + 1 := (by omega))); (try (have : w.heap.size + 1 + 1 + 1 < w1.heap.size := (by omega))); (try (have : w.heap.size + 1 + 1 + 1 < w1.heap.size + 1 := (by omega))); (try (have : w.heap.size + 1 + 1 + 1 < w1.heap.size + 1 + 1 := (by omega)))) | (go_at_call 69; refine (HC.out _ (hmem.below (B := w.heap.size) (by repeat' first | with_reducible exact Below.refl _ _ | with_reducible assumption | with_reducible refine Free.Grow.alloc ?_ _ | with_reducible refine Free.Grow.setCell ?_ (by first | omega | (simp; done) | (simp; omega)) _ | with_reducible refine Free.Grow.drew ?_ | with_reducible refine Free.Grow.trans ?_ (by assumption)) hbw) (by simp; omega)).mono ?_; rintro e w2 ⟨rfl, hb2⟩; have hc2 := (Free.cells_of hb2).1; have hf2 := (Free.cells_of hb2).2; have hz2 := hb2.size; (try simp only [World.size_alloc, World.size_setCell, World.size_drew] at hz2); (try (have : w.heap.size < w2.heap.size := (by omega))); (try (have : w.heap.size < w2.heap.size + 1 := (by omega))); (try (have : w.heap.size < w2.heap.size + 1 + 1 := (by omega))); (try (have : w.heap.size + 1 < w2.heap.size := (by omega))); (try (have : w.heap.size + 1 < w2.heap.size + 1 := (by omega))); (try (have : w.heap.size + 1 < w2.heap.size + 1 + 1 := (by omega))); (try (have : w.heap.size + 1 + 1 < w2.heap.size := (by omega))); (try (have : w.heap.size + 1 + 1 < w2.heap.size + 1 := (by omega))); (try (have : w.heap.size + 1 + 1 < w2.heap.size + 1 + 1 := (by omega))); (try (have : w.heap.size + 1 + 1 + 1 < w2.heap.size := (by omega))); (try (have : w.heap.size + 1 + 1 + 1 < w2.heap.size + 1 := (by omega))); (try (have : w.heap.size + 1 + 1 + 1 < w2.heap.size + 1 + 1 := (by omega))); (try (have : w1.heap.size < w2.heap.size := (by omega))); (try (have : w1.heap.size < w2.heap.size + 1 := (by omega))); (try (have : w1.heap.size < w2.heap.size + 1 + 1 := (by omega))); (try (have : w1.heap.size + 1 < w2.heap.size := (by omega))); (try (have : w1.heap.size + 1 < w2.heap.size + 1 := (by omega))); (try (have : w1.heap.size + 1 < w2.heap.size + 1 + 1 := (by omega))); (try (have : w1.heap.size + 1 + 1 < w2.heap.size := (by omega))); (try (have : w1.heap.size + 1 + 1 < w2.heap.size + 1 := (by omega))); (try (have : w1.heap.size + 1 + 1 < w2.heap.size + 1 + 1 := (by omega))); (try (have : w1.heap.size + 1 + 1 + 1 < w2.heap.size := (by omega))); (try (have : w1.heap.size + 1 + 1 + 1 < w2.heap.size + 1 := (by omega))); (try (have : w1.heap.size + 1 + 1 + 1 < w2.heap.size + 1 + 1 := (by omega)))))
    refine bodyPost_ret (v := .tuple #[bxV (bx bd l t), .int .i64 0]) (by simp [results, Tryz.results29, go_sem, *]) rfl ?_
    exact HR.out _ (by repeat' first | with_reducible exact Below.refl _ _ | with_reducible assumption | with_reducible refine Free.Grow.alloc ?_ _ | with_reducible refine Free.Grow.setCell ?_ (by first | omega | (simp; done) | (simp; omega)) _ | with_reducible refine Free.Grow.drew ?_ | with_reducible refine Free.Grow.trans ?_ (by assumption))
  · have hb0 : (atE nm.data.toList bd l t != 0) = true := by simpa using h
    have HN : bxOr nm.data.toList bd l t = ⟨0, 0, 0, 0, 0, 0⟩ := by unfold bxOr; rw [if_neg h]
    rw [HN]
    clear HN
    have HO := Lib.hid hO
    clear h hO
    generalize atE nm.data.toList bd l t = c at *
    refine Calls.made fun R HR => ?_
    go_enter Tryz.func29, Tryz.ntmps29
    go_wp2_with fail
    (refine (HA.out _ (HO.out.below (by repeat' first | with_reducible exact Below.refl _ _ | with_reducible assumption | with_reducible refine Free.Grow.alloc ?_ _ | with_reducible refine Free.Grow.setCell ?_ (by first | omega | (simp; done) | (simp; omega)) _ | with_reducible refine Free.Grow.drew ?_ | with_reducible refine Free.Grow.trans ?_ (by assumption)))).mono ?_; rintro e w1 ⟨rfl, hb1⟩; have hc1 := (Free.cells_of hb1).1; have hf1 := (Free.cells_of hb1).2; have hz1 := hb1.size; (try simp only [World.size_alloc, World.size_setCell, World.size_drew] at hz1); (try (have : w.heap.size < w1.heap.size := (by omega))); (try (have : w.heap.size < w1.heap.size + 1 := (by omega))); (try (have : w.heap.size < w1.heap.size + 1 + 1 := (by omega))); (try (have : w.heap.size + 1 < w1.heap.size := (by omega))); (try (have : w.heap.size + 1 < w1.heap.size + 1 := (by omega))); (try (have : w.heap.size + 1 < w1.heap.size + 1 + 1 := (by omega))); (try (have : w.heap.size + 1 + 1 < w1.heap.size := (by omega))); (try (have : w.heap.size + 1 + 1 < w1.heap.size + 1 := (by omega))); (try (have : w.heap.size + 1 + 1 < w1.heap.size + 1 + 1 := (by omega))); (try (have : w.heap.size + 1 + 1 + 1 < w1.heap.size := (by omega))); (try (have : w.heap.size + 1 + 1 + 1 < w1.heap.size + 1 := (by omega))); (try (have : w.heap.size + 1 + 1 + 1 < w1.heap.size + 1 + 1 := (by omega))))
    go_simp
    refine (‹∀ (a : Act) (w : World), wpList _ _ _ _ a w → _› _ _ ?_)
    repeat go_step
    refine bodyPost_ret (v := .tuple #[bxV ⟨0, 0, 0, 0, 0, 0⟩, .int .i64 c]) (by simp [results, Tryz.results29, go_sem, *]) rfl ?_
    exact HR.out _ (by repeat' first | with_reducible exact Below.refl _ _ | with_reducible assumption | with_reducible refine Free.Grow.alloc ?_ _ | with_reducible refine Free.Grow.setCell ?_ (by first | omega | (simp; done) | (simp; omega)) _ | with_reducible refine Free.Grow.drew ?_ | with_reducible refine Free.Grow.trans ?_ (by assumption))
end Go.Proofs.YthhhkjbhhjcjoaaGreatDoor
end

section
namespace Go.Proofs.YthhhkjbhhjcjoaaGreatDoor
open Go.RowKit Go.Ob

set_option maxHeartbeats 400000 in
theorem rWithin_any (n lo hi : Int) (w : World) :
    Calls Tryz.prog 22 #[.int .i64 n, .int .i64 lo, .int .i64 hi] w fun e w' => e = .returned (.bool (rngB n lo hi)) ∧ w = w' := by
  have ht : ∀ b, rngB n lo hi = b → Ending.returned (.bool b) = .returned (.bool (rngB n lo hi)) := fun b h => by rw [h]
  by_cases h1 : lo ≤ n
  · by_cases h2 : n ≤ hi
    · have H := Lib.hid (ht _ (rngB_true.2 ⟨h1, h2⟩))
      clear ht
      go_enter Tryz.func22, Tryz.ntmps22
      go_wp2
      go_ret
      exact ⟨H.out, rfl⟩
    · have H := Lib.hid (ht _ (rngB_false.2 (by omega)))
      clear ht
      go_enter Tryz.func22, Tryz.ntmps22
      go_wp2
      go_ret
      exact ⟨H.out, rfl⟩
  · have H := Lib.hid (ht _ (rngB_false.2 (by omega)))
    clear ht
    go_enter Tryz.func22, Tryz.ntmps22
    go_wp2
    go_ret
    exact ⟨H.out, rfl⟩

theorem isPlace_any (n : Int) (w : World) : Calls Tryz.prog 89 #[.int .i64 n] w fun e w' => e = .returned (.bool (rngB n (-100000000) 100000000)) ∧ w = w' := by
  go_enter Tryz.func89, Tryz.ntmps89
  go_wp2_with (go_at_call 22; refine (rWithin_any _ _ _ _).mono ?_; rintro e w' ⟨rfl, rfl⟩)
  go_ret
  exact ⟨rfl, rfl⟩
theorem isError_any (n : Int) (w : World) : Calls Tryz.prog 46 #[.int .i64 n] w fun e w' => e = .returned (.bool (rngB n 0 100000)) ∧ w = w' := by
  go_enter Tryz.func46, Tryz.ntmps46
  go_wp2_with (go_at_call 22; refine (rWithin_any _ _ _ _).mono ?_; rintro e w' ⟨rfl, rfl⟩)
  go_ret
  exact ⟨rfl, rfl⟩

/-- The place's error is none. -/
def plB (x y z : Int) : Bool := decide (placeE x y z = 0)
theorem plB_eq (x y z : Int) : plB x y z = (rngB x (-100000000) 100000000 && (rngB y (-100000000) 100000000 && rngB z (-100000000) 100000000)) := by
  unfold plB placeE
  rw [Bool.eq_iff_iff, decide_eq_true_iff, firstE_three, bnd_ok, bnd_ok, bnd_ok, Bool.and_eq_true, Bool.and_eq_true, rngB_true, rngB_true, rngB_true]

set_option maxHeartbeats 1000000 in
theorem IsPlace_any (x y z : Int) (w : World) : Calls Tryz.prog 45 #[v3 x y z] w fun e w' => e = .returned (.bool (plB x y z)) ∧ Below w.heap.size w w' := by
  rw [plB_eq]
  refine Calls.made fun R HR => ?_
  cases hx : rngB x (-100000000) 100000000 <;> cases hy : rngB y (-100000000) 100000000 <;> cases hz : rngB z (-100000000) 100000000
  all_goals
    rw [hx, hy, hz] at HR
    go_enter Tryz.func45, Tryz.ntmps45
    go_wp2_with (go_at_call 89; refine (isPlace_any _ _).mono ?_; rintro e w' ⟨rfl, rfl⟩)
    first | (go_ret; exact HR.out _ (by repeat' first | with_reducible exact Below.refl _ _ | with_reducible assumption | with_reducible refine Free.Grow.alloc ?_ _ | with_reducible refine Free.Grow.setCell ?_ (by first | omega | (simp; done) | (simp; omega)) _ | with_reducible refine Free.Grow.drew ?_ | with_reducible refine Free.Grow.trans ?_ (by assumption))) | exact HR.out _ (by repeat' first | with_reducible exact Below.refl _ _ | with_reducible assumption | with_reducible refine Free.Grow.alloc ?_ _ | with_reducible refine Free.Grow.setCell ?_ (by first | omega | (simp; done) | (simp; omega)) _ | with_reducible refine Free.Grow.drew ?_ | with_reducible refine Free.Grow.trans ?_ (by assumption))

set_option maxHeartbeats 1000000 in
theorem rCheckState_any (s : St) (w : World) : Calls Tryz.prog 11 #[stV s] w fun e w' => e = .returned (.int .i64 (stE s)) ∧ Below w.heap.size w w' := by
  have hE : stE s = if rngB s.t 0 1000000000 = true ∧ plB s.x s.y s.z = true ∧ rngB s.e 0 100000 = true then 0 else 2 := by
    unfold stE
    by_cases h : firstE [bnd s.t 0 1000000000, placeE s.x s.y s.z, bnd s.e 0 100000] = 0
    · rw [h, if_pos]; rw [firstE_three, bnd_ok, bnd_ok] at h; rw [rngB_true, rngB_true]; exact ⟨h.1, decide_eq_true h.2.1, h.2.2⟩
    · rw [if_neg (fun hc => h (by rw [firstE_three, bnd_ok, bnd_ok, ← rngB_true, ← rngB_true]; exact ⟨hc.1, of_decide_eq_true hc.2.1, hc.2.2⟩))]
      have hb : placeE s.x s.y s.z = 0 ∨ placeE s.x s.y s.z = 2 := by
        unfold placeE firstE firstE firstE firstE
        rcases bnd_or s.x (-100000000) 100000000 with a | a <;> rcases bnd_or s.y (-100000000) 100000000 with b | b <;> rcases bnd_or s.z (-100000000) 100000000 with c | c <;> simp [a, b, c]
      simp only [firstE] at h ⊢
      rcases bnd_or s.t 0 1000000000 with a | a <;> rcases hb with b | b <;> rcases bnd_or s.e 0 100000 with c | c <;> simp [a, b, c] at h ⊢
  rw [hE]
  clear hE
  refine Calls.made fun R HR => ?_
  cases hx : rngB s.t 0 1000000000 <;> cases hy : plB s.x s.y s.z <;> cases hz : rngB s.e 0 100000
  all_goals
    rw [hx, hy, hz] at HR
    simp only [Bool.false_eq_true, false_and, and_false, and_self, if_true, if_false] at HR
    go_enter Tryz.func11, Tryz.ntmps11
    go_wp2_with (first | (go_at_call 22; refine (rWithin_any _ _ _ _).mono ?_; rintro e w' ⟨rfl, rfl⟩) | (go_at_call 46; refine (isError_any _ _).mono ?_; rintro e w' ⟨rfl, rfl⟩) | (go_at_call 45; refine (IsPlace_any _ _ _ _).mono ?_; rintro e w1 ⟨rfl, hb1⟩; have hc1 := (Free.cells_of hb1).1; have hf1 := (Free.cells_of hb1).2; have hz1 := hb1.size; (try simp only [World.size_alloc, World.size_setCell, World.size_drew] at hz1); (try (have : w.heap.size < w1.heap.size := (by omega))); (try (have : w.heap.size < w1.heap.size + 1 := (by omega))); (try (have : w.heap.size < w1.heap.size + 1 + 1 := (by omega))); (try (have : w.heap.size + 1 < w1.heap.size := (by omega))); (try (have : w.heap.size + 1 < w1.heap.size + 1 := (by omega))); (try (have : w.heap.size + 1 < w1.heap.size + 1 + 1 := (by omega))); (try (have : w.heap.size + 1 + 1 < w1.heap.size := (by omega))); (try (have : w.heap.size + 1 + 1 < w1.heap.size + 1 := (by omega))); (try (have : w.heap.size + 1 + 1 < w1.heap.size + 1 + 1 := (by omega))); (try (have : w.heap.size + 1 + 1 + 1 < w1.heap.size := (by omega))); (try (have : w.heap.size + 1 + 1 + 1 < w1.heap.size + 1 := (by omega))); (try (have : w.heap.size + 1 + 1 + 1 < w1.heap.size + 1 + 1 := (by omega)))))
    first | (go_ret; exact HR.out _ (by repeat' first | with_reducible exact Below.refl _ _ | with_reducible assumption | with_reducible refine Free.Grow.alloc ?_ _ | with_reducible refine Free.Grow.setCell ?_ (by first | omega | (simp; done) | (simp; omega)) _ | with_reducible refine Free.Grow.drew ?_ | with_reducible refine Free.Grow.trans ?_ (by assumption))) | exact HR.out _ (by repeat' first | with_reducible exact Below.refl _ _ | with_reducible assumption | with_reducible refine Free.Grow.alloc ?_ _ | with_reducible refine Free.Grow.setCell ?_ (by first | omega | (simp; done) | (simp; omega)) _ | with_reducible refine Free.Grow.drew ?_ | with_reducible refine Free.Grow.trans ?_ (by assumption))

set_option maxRecDepth 100000 in
set_option maxHeartbeats 1000000 in
theorem First_any (nm : ByteArray) (bd : Int) (b off cap : Nat) (l : List St) (w : World) (hS : HasSts w b off l) (hbw : b < w.heap.size) (h1 : 1 ≤ l.length) (h2 : l.length ≤ 1000) :
    Calls Tryz.prog 26 #[obV nm bd (some ⟨b, off, none⟩) l.length cap] w fun e w' => e = .returned (.int .i64 (frstT l)) ∧ Below w.heap.size w w' := by
  obtain ⟨c0, -⟩ := hS 0 (by omega)
  simp only [Nat.zero_mul, Nat.add_zero] at c0
  have : b < w.heap.size := (by omega); have : b < w.heap.size + 1 := (by omega); have : b < w.heap.size + 1 + 1 := (by omega)
  have h0 : 0 < l.length := h1
  have h3 : (1 : Int) ≤ l.length := by omega
  refine Calls.made fun R HR => ?_
  go_enter Tryz.func26, Tryz.ntmps26
  go_wp2
  first | (go_ret; exact HR.out _ (by repeat' first | with_reducible exact Below.refl _ _ | with_reducible assumption | with_reducible refine Free.Grow.alloc ?_ _ | with_reducible refine Free.Grow.setCell ?_ (by first | omega | (simp; done) | (simp; omega)) _ | with_reducible refine Free.Grow.drew ?_ | with_reducible refine Free.Grow.trans ?_ (by assumption))) | exact HR.out _ (by repeat' first | with_reducible exact Below.refl _ _ | with_reducible assumption | with_reducible refine Free.Grow.alloc ?_ _ | with_reducible refine Free.Grow.setCell ?_ (by first | omega | (simp; done) | (simp; omega)) _ | with_reducible refine Free.Grow.drew ?_ | with_reducible refine Free.Grow.trans ?_ (by assumption))

set_option maxRecDepth 100000 in
set_option maxHeartbeats 1000000 in
theorem Last_any (nm : ByteArray) (bd : Int) (b off cap : Nat) (l : List St) (w : World) (hS : HasSts w b off l) (hbw : b < w.heap.size) (h1 : 1 ≤ l.length) (h2 : l.length ≤ 1000) :
    Calls Tryz.prog 27 #[obV nm bd (some ⟨b, off, none⟩) l.length cap] w fun e w' => e = .returned (.int .i64 (lastT l)) ∧ Below w.heap.size w w' := by
  obtain ⟨c1, -⟩ := hS (l.length - 1) (by omega)
  have : b < w.heap.size := (by omega); have : b < w.heap.size + 1 := (by omega); have : b < w.heap.size + 1 + 1 := (by omega)
  have h3 : (1 : Int) ≤ l.length := by omega
  have h4 : (l.length : Int) ≤ 1000 := by omega
  have h5 : ((l.length : Int) - 1).toNat = l.length - 1 := by omega
  refine Calls.made fun R HR => ?_
  go_enter Tryz.func27, Tryz.ntmps27
  go_wp2
  first | (go_ret; exact HR.out _ (by repeat' first | with_reducible exact Below.refl _ _ | with_reducible assumption | with_reducible refine Free.Grow.alloc ?_ _ | with_reducible refine Free.Grow.setCell ?_ (by first | omega | (simp; done) | (simp; omega)) _ | with_reducible refine Free.Grow.drew ?_ | with_reducible refine Free.Grow.trans ?_ (by assumption))) | exact HR.out _ (by repeat' first | with_reducible exact Below.refl _ _ | with_reducible assumption | with_reducible refine Free.Grow.alloc ?_ _ | with_reducible refine Free.Grow.setCell ?_ (by first | omega | (simp; done) | (simp; omega)) _ | with_reducible refine Free.Grow.drew ?_ | with_reducible refine Free.Grow.trans ?_ (by assumption))

end Go.Proofs.YthhhkjbhhjcjoaaGreatDoor
end

section
namespace Go.Proofs.YthhhkjbhhjcjoaaGreatDoor
open Go.RowKit Go.Ob

theorem bv_get (s : ByteArray) (k : Nat) (h : k < s.size) : bv s.data.toList k = (s[k].toNat : Int) := by
  have hk' : k < s.data.toList.length := by simpa using h
  simp only [bv, List.getD_eq_getElem?_getD, List.getElem?_eq_getElem hk', Option.getD_some, Array.getElem_toList]
  rfl

set_option maxRecDepth 100000 in
set_option maxHeartbeats 4000000 in
theorem rIsName_any (s : ByteArray) (w : World) (hs : s.size ≤ 1000) :
    Calls Tryz.prog 93 #[.string s] w fun e w' => e = .returned (.bool (nameB s.data.toList)) ∧ w = w' := by
  have hlen : Hid (s.data.toList.length = s.size) := by unfold Hid; simp
  refine Calls.same fun R HR => ?_
  have HN : Hid (∀ b, nameB s.data.toList = b → R (.returned (.bool b)) w) := fun b h => h ▸ HR.out
  clear HR
  by_cases h1 : s.size < 1
  · have h2 : (s.size : Int) < 1 := by omega
    have HF := Lib.hid (HN.out false (by unfold nameB; rw [decide_eq_false]; rintro ⟨a, _⟩; rw [hlen.out] at a; omega))
    go_enter Tryz.func93, Tryz.ntmps93
    go_wp2
    first | (go_ret; exact HF.out) | exact HF.out
  · by_cases h3 : 12 < s.size
    · have h2 : (1 : Int) ≤ s.size := by omega
      have h4 : (12 : Int) < s.size := by omega
      have HF := Lib.hid (HN.out false (by unfold nameB; rw [decide_eq_false]; rintro ⟨_, a, _⟩; rw [hlen.out] at a; omega))
      go_enter Tryz.func93, Tryz.ntmps93
      go_wp2
      first | (go_ret; exact HF.out) | exact HF.out
    · have h2 : (1 : Int) ≤ s.size := by omega
      have h4 : (s.size : Int) ≤ 12 := by omega
      go_enter Tryz.func93, Tryz.ntmps93
      go_wp2
      go_loop [3, 4, 5] (fun i _ _ => ∃ k : Nat, k ≤ s.size ∧ i = .int .i64 k ∧ ∀ j, j < k → okN j (bv s.data.toList j)) (fun i _ _ => s.size - (intOf i).toNat)
      case atStart => exact ⟨0, Nat.zero_le _, rfl, fun _ h => by omega⟩
      case round =>
        obtain ⟨k, hk, rfl, hf⟩ := hrel
        have HF := Lib.hid hf
        clear hf
        by_cases hlt : k < s.size
        · have HV := Lib.hid (bv_get s k hlt)
          have hv1 := (bv_bd s.data.toList k)
          rw [HV.out] at hv1
          obtain ⟨hv0, hv1⟩ := hv1
          have HNo := Lib.hid (fun h : ¬ okN k (bv s.data.toList k) => HN.out false (nameB_no (by rw [hlen.out]; exact hlt) h))
          obtain ⟨bk, hbk⟩ : ∃ b : Bool, ((k : Int) == 0) = b := ⟨_, rfl⟩
          obtain ⟨b45, hb45⟩ : ∃ b : Bool, ((s[k].toNat : Int) != 45) = b := ⟨_, rfl⟩
          cases bk <;> cases b45
          all_goals
            have hk0 := hbk
            have hn45 := hb45
            simp only [beq_iff_eq, bne_iff_ne, beq_eq_false_iff_ne, ne_eq, bne_eq_false_iff_eq] at hk0 hn45
            have HK := Lib.hid hk0
            have H45 := Lib.hid hn45
            clear hk0 hn45
            go_wp2
            all_goals first
              | (go_round
                 case measure => simp [intOf]; omega
                 case rel =>
                   refine ⟨k + 1, by omega, by go_num, fun j hj => ?_⟩
                   by_cases hjk : j = k
                   · subst hjk; rw [HV.out]; have := HK.out; have := H45.out; unfold okN; omega
                   · exact HF.out j (by omega))
              | (first | (go_ret; exact HNo.out (by rw [HV.out]; have := HK.out; have := H45.out; unfold okN; omega)) | exact HNo.out (by rw [HV.out]; have := HK.out; have := H45.out; unfold okN; omega))
              | (exfalso; rename_i hx; simp only [Bool.not_eq_false', decide_eq_true_eq] at hx; omega)
        · have HF2 := Lib.hid (HN.out true (by rw [nameB_end (fun j hj => HF.out j (by rw [hlen.out] at hj; omega)), hlen.out, decide_eq_true]; omega))
          go_wp2
          first | (go_ret; exact HF2.out) | exact HF2.out

end Go.Proofs.YthhhkjbhhjcjoaaGreatDoor
end
