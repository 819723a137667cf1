/- Chapter 2: the reference's small functions: what each call returns. -/
import Derived.Test.Ythpjhpfebjjanaa02i
set_option linter.unusedSimpArgs false
set_option linter.unusedVariables false
namespace Go.Proofs.Ythpjhpfebjjanaa
open Go.RowKit Go.Ob

set_option maxHeartbeats 400000 in
theorem rWithin_any (n lo hi : Int) (w : World) :
    Calls Try.prog 22 #[.int .i64 n, .int .i64 lo, .int .i64 hi] w fun e w' => e = .returned (.bool (rngB n lo hi)) ∧ w = w' := by
  have ht : ∀ b, rngB n lo hi = b → Ending.returned (.bool b) = .returned (.bool (rngB n lo hi)) := fun b h => by rw [h]
  by_cases h1 : lo ≤ n
  · by_cases h2 : n ≤ hi
    · have H := Lib.hid (ht _ (rngB_true.2 ⟨h1, h2⟩))
      clear ht
      go_enter Try.func22, Try.ntmps22
      go_wp2
      go_ret
      exact ⟨H.out, rfl⟩
    · have H := Lib.hid (ht _ (rngB_false.2 (by omega)))
      clear ht
      go_enter Try.func22, Try.ntmps22
      go_wp2
      go_ret
      exact ⟨H.out, rfl⟩
  · have H := Lib.hid (ht _ (rngB_false.2 (by omega)))
    clear ht
    go_enter Try.func22, Try.ntmps22
    go_wp2
    go_ret
    exact ⟨H.out, rfl⟩

theorem isPlace_any (n : Int) (w : World) : Calls Try.prog 81 #[.int .i64 n] w fun e w' => e = .returned (.bool (rngB n (-100000000) 100000000)) ∧ w = w' := by
  go_enter Try.func81, Try.ntmps81
  go_wp2_with (go_at_call 22; refine (rWithin_any _ _ _ _).mono ?_; rintro e w' ⟨rfl, rfl⟩)
  go_ret
  exact ⟨rfl, rfl⟩
theorem isError_any (n : Int) (w : World) : Calls Try.prog 107 #[.int .i64 n] w fun e w' => e = .returned (.bool (rngB n 0 100000)) ∧ w = w' := by
  go_enter Try.func107, Try.ntmps107
  go_wp2_with (go_at_call 22; refine (rWithin_any _ _ _ _).mono ?_; rintro e w' ⟨rfl, rfl⟩)
  go_ret
  exact ⟨rfl, rfl⟩

/-- The place's error is none. -/
def plB (x y z : Int) : Bool := decide (placeE x y z = 0)
theorem plB_eq (x y z : Int) : plB x y z = (rngB x (-100000000) 100000000 && (rngB y (-100000000) 100000000 && rngB z (-100000000) 100000000)) := by
  unfold plB placeE
  rw [Bool.eq_iff_iff, decide_eq_true_iff, firstE_three, bnd_ok, bnd_ok, bnd_ok, Bool.and_eq_true, Bool.and_eq_true, rngB_true, rngB_true, rngB_true]

set_option maxHeartbeats 1000000 in
theorem IsPlace_any (x y z : Int) (w : World) : Calls Try.prog 21 #[v3 x y z] w fun e w' => e = .returned (.bool (plB x y z)) ∧ Below w.heap.size w w' := by
  rw [plB_eq]
  refine Calls.made fun R HR => ?_
  cases hx : rngB x (-100000000) 100000000 <;> cases hy : rngB y (-100000000) 100000000 <;> cases hz : rngB z (-100000000) 100000000
  all_goals
    rw [hx, hy, hz] at HR
    go_enter Try.func21, Try.ntmps21
    go_wp2_with (go_at_call 81; refine (isPlace_any _ _).mono ?_; rintro e w' ⟨rfl, rfl⟩)
    first | (go_ret; exact HR.out _ (by repeat' first | with_reducible exact Below.refl _ _ | with_reducible assumption | with_reducible refine Free.Grow.alloc ?_ _ | with_reducible refine Free.Grow.setCell ?_ (by first | omega | (simp; done) | (simp; omega)) _ | with_reducible refine Free.Grow.drew ?_ | with_reducible refine Free.Grow.trans ?_ (by assumption))) | exact HR.out _ (by repeat' first | with_reducible exact Below.refl _ _ | with_reducible assumption | with_reducible refine Free.Grow.alloc ?_ _ | with_reducible refine Free.Grow.setCell ?_ (by first | omega | (simp; done) | (simp; omega)) _ | with_reducible refine Free.Grow.drew ?_ | with_reducible refine Free.Grow.trans ?_ (by assumption))

set_option maxHeartbeats 1000000 in
theorem rCheckState_any (s : St) (w : World) : Calls Try.prog 108 #[stV s] w fun e w' => e = .returned (.int .i64 (stE s)) ∧ Below w.heap.size w w' := by
  have hE : stE s = if rngB s.t 0 1000000000 = true ∧ plB s.x s.y s.z = true ∧ rngB s.e 0 100000 = true then 0 else 2 := by
    unfold stE
    by_cases h : firstE [bnd s.t 0 1000000000, placeE s.x s.y s.z, bnd s.e 0 100000] = 0
    · rw [h, if_pos]; rw [firstE_three, bnd_ok, bnd_ok] at h; rw [rngB_true, rngB_true]; exact ⟨h.1, decide_eq_true h.2.1, h.2.2⟩
    · rw [if_neg (fun hc => h (by rw [firstE_three, bnd_ok, bnd_ok, ← rngB_true, ← rngB_true]; exact ⟨hc.1, of_decide_eq_true hc.2.1, hc.2.2⟩))]
      have hb : placeE s.x s.y s.z = 0 ∨ placeE s.x s.y s.z = 2 := by
        unfold placeE firstE firstE firstE firstE
        rcases bnd_or s.x (-100000000) 100000000 with a | a <;> rcases bnd_or s.y (-100000000) 100000000 with b | b <;> rcases bnd_or s.z (-100000000) 100000000 with c | c <;> simp [a, b, c]
      simp only [firstE] at h ⊢
      rcases bnd_or s.t 0 1000000000 with a | a <;> rcases hb with b | b <;> rcases bnd_or s.e 0 100000 with c | c <;> simp [a, b, c] at h ⊢
  rw [hE]
  clear hE
  refine Calls.made fun R HR => ?_
  cases hx : rngB s.t 0 1000000000 <;> cases hy : plB s.x s.y s.z <;> cases hz : rngB s.e 0 100000
  all_goals
    rw [hx, hy, hz] at HR
    simp only [Bool.false_eq_true, false_and, and_false, and_self, if_true, if_false] at HR
    go_enter Try.func108, Try.ntmps108
    go_wp2_with (first | (go_at_call 22; refine (rWithin_any _ _ _ _).mono ?_; rintro e w' ⟨rfl, rfl⟩) | (go_at_call 107; refine (isError_any _ _).mono ?_; rintro e w' ⟨rfl, rfl⟩) | (go_at_call 21; refine (IsPlace_any _ _ _ _).mono ?_; rintro e w1 ⟨rfl, hb1⟩; have hc1 := (Free.cells_of hb1).1; have hf1 := (Free.cells_of hb1).2; have hz1 := hb1.size; (try simp only [World.size_alloc, World.size_setCell, World.size_drew] at hz1); (try (have : w.heap.size < w1.heap.size := (by omega))); (try (have : w.heap.size < w1.heap.size + 1 := (by omega))); (try (have : w.heap.size < w1.heap.size + 1 + 1 := (by omega))); (try (have : w.heap.size + 1 < w1.heap.size := (by omega))); (try (have : w.heap.size + 1 < w1.heap.size + 1 := (by omega))); (try (have : w.heap.size + 1 < w1.heap.size + 1 + 1 := (by omega))); (try (have : w.heap.size + 1 + 1 < w1.heap.size := (by omega))); (try (have : w.heap.size + 1 + 1 < w1.heap.size + 1 := (by omega))); (try (have : w.heap.size + 1 + 1 < w1.heap.size + 1 + 1 := (by omega))); (try (have : w.heap.size + 1 + 1 + 1 < w1.heap.size := (by omega))); (try (have : w.heap.size + 1 + 1 + 1 < w1.heap.size + 1 := (by omega))); (try (have : w.heap.size + 1 + 1 + 1 < w1.heap.size + 1 + 1 := (by omega)))))
    first | (go_ret; exact HR.out _ (by repeat' first | with_reducible exact Below.refl _ _ | with_reducible assumption | with_reducible refine Free.Grow.alloc ?_ _ | with_reducible refine Free.Grow.setCell ?_ (by first | omega | (simp; done) | (simp; omega)) _ | with_reducible refine Free.Grow.drew ?_ | with_reducible refine Free.Grow.trans ?_ (by assumption))) | exact HR.out _ (by repeat' first | with_reducible exact Below.refl _ _ | with_reducible assumption | with_reducible refine Free.Grow.alloc ?_ _ | with_reducible refine Free.Grow.setCell ?_ (by first | omega | (simp; done) | (simp; omega)) _ | with_reducible refine Free.Grow.drew ?_ | with_reducible refine Free.Grow.trans ?_ (by assumption))

set_option maxRecDepth 100000 in
set_option maxHeartbeats 1000000 in
theorem First_any (nm : ByteArray) (bd : Int) (b off cap : Nat) (l : List St) (w : World) (hS : HasSts w b off l) (hbw : b < w.heap.size) (h1 : 1 ≤ l.length) (h2 : l.length ≤ 1000) :
    Calls Try.prog 34 #[obV nm bd (some ⟨b, off, none⟩) l.length cap] w fun e w' => e = .returned (.int .i64 (frstT l)) ∧ Below w.heap.size w w' := by
  obtain ⟨c0, -⟩ := hS 0 (by omega)
  simp only [Nat.zero_mul, Nat.add_zero] at c0
  have : b < w.heap.size := (by omega); have : b < w.heap.size + 1 := (by omega); have : b < w.heap.size + 1 + 1 := (by omega)
  have h0 : 0 < l.length := h1
  have h3 : (1 : Int) ≤ l.length := by omega
  refine Calls.made fun R HR => ?_
  go_enter Try.func34, Try.ntmps34
  go_wp2
  first | (go_ret; exact HR.out _ (by repeat' first | with_reducible exact Below.refl _ _ | with_reducible assumption | with_reducible refine Free.Grow.alloc ?_ _ | with_reducible refine Free.Grow.setCell ?_ (by first | omega | (simp; done) | (simp; omega)) _ | with_reducible refine Free.Grow.drew ?_ | with_reducible refine Free.Grow.trans ?_ (by assumption))) | exact HR.out _ (by repeat' first | with_reducible exact Below.refl _ _ | with_reducible assumption | with_reducible refine Free.Grow.alloc ?_ _ | with_reducible refine Free.Grow.setCell ?_ (by first | omega | (simp; done) | (simp; omega)) _ | with_reducible refine Free.Grow.drew ?_ | with_reducible refine Free.Grow.trans ?_ (by assumption))

set_option maxRecDepth 100000 in
set_option maxHeartbeats 1000000 in
theorem Last_any (nm : ByteArray) (bd : Int) (b off cap : Nat) (l : List St) (w : World) (hS : HasSts w b off l) (hbw : b < w.heap.size) (h1 : 1 ≤ l.length) (h2 : l.length ≤ 1000) :
    Calls Try.prog 35 #[obV nm bd (some ⟨b, off, none⟩) l.length cap] w fun e w' => e = .returned (.int .i64 (lastT l)) ∧ Below w.heap.size w w' := by
  obtain ⟨c1, -⟩ := hS (l.length - 1) (by omega)
  have : b < w.heap.size := (by omega); have : b < w.heap.size + 1 := (by omega); have : b < w.heap.size + 1 + 1 := (by omega)
  have h3 : (1 : Int) ≤ l.length := by omega
  have h4 : (l.length : Int) ≤ 1000 := by omega
  have h5 : ((l.length : Int) - 1).toNat = l.length - 1 := by omega
  refine Calls.made fun R HR => ?_
  go_enter Try.func35, Try.ntmps35
  go_wp2
  first | (go_ret; exact HR.out _ (by repeat' first | with_reducible exact Below.refl _ _ | with_reducible assumption | with_reducible refine Free.Grow.alloc ?_ _ | with_reducible refine Free.Grow.setCell ?_ (by first | omega | (simp; done) | (simp; omega)) _ | with_reducible refine Free.Grow.drew ?_ | with_reducible refine Free.Grow.trans ?_ (by assumption))) | exact HR.out _ (by repeat' first | with_reducible exact Below.refl _ _ | with_reducible assumption | with_reducible refine Free.Grow.alloc ?_ _ | with_reducible refine Free.Grow.setCell ?_ (by first | omega | (simp; done) | (simp; omega)) _ | with_reducible refine Free.Grow.drew ?_ | with_reducible refine Free.Grow.trans ?_ (by assumption))

end Go.Proofs.Ythpjhpfebjjanaa
