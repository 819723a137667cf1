/- Chapter 2: the reference's small functions: what each call returns. -/
import Derived.Test.YthhhkjbhhjcjoaaGreatDoor02i
set_option linter.unusedSimpArgs false
set_option linter.unusedVariables false
namespace Go.Proofs.YthhhkjbhhjcjoaaGreatDoor
open Go.RowKit Go.Ob

set_option maxHeartbeats 400000 in
theorem rWithin_any (n lo hi : Int) (w : World) :
    Calls Tryz.prog 22 #[.int .i64 n, .int .i64 lo, .int .i64 hi] w fun e w' => e = .returned (.bool (rngB n lo hi)) ∧ w = w' := by
  have ht : ∀ b, rngB n lo hi = b → Ending.returned (.bool b) = .returned (.bool (rngB n lo hi)) := fun b h => by rw [h]
  by_cases h1 : lo ≤ n
  · by_cases h2 : n ≤ hi
    · have H := Lib.hid (ht _ (rngB_true.2 ⟨h1, h2⟩))
      clear ht
      go_enter Tryz.func22, Tryz.ntmps22
      go_wp2
      go_ret
      exact ⟨H.out, rfl⟩
    · have H := Lib.hid (ht _ (rngB_false.2 (by omega)))
      clear ht
      go_enter Tryz.func22, Tryz.ntmps22
      go_wp2
      go_ret
      exact ⟨H.out, rfl⟩
  · have H := Lib.hid (ht _ (rngB_false.2 (by omega)))
    clear ht
    go_enter Tryz.func22, Tryz.ntmps22
    go_wp2
    go_ret
    exact ⟨H.out, rfl⟩

theorem isPlace_any (n : Int) (w : World) : Calls Tryz.prog 89 #[.int .i64 n] w fun e w' => e = .returned (.bool (rngB n (-100000000) 100000000)) ∧ w = w' := by
  go_enter Tryz.func89, Tryz.ntmps89
  go_wp2_with (go_at_call 22; refine (rWithin_any _ _ _ _).mono ?_; rintro e w' ⟨rfl, rfl⟩)
  go_ret
  exact ⟨rfl, rfl⟩
theorem isError_any (n : Int) (w : World) : Calls Tryz.prog 46 #[.int .i64 n] w fun e w' => e = .returned (.bool (rngB n 0 100000)) ∧ w = w' := by
  go_enter Tryz.func46, Tryz.ntmps46
  go_wp2_with (go_at_call 22; refine (rWithin_any _ _ _ _).mono ?_; rintro e w' ⟨rfl, rfl⟩)
  go_ret
  exact ⟨rfl, rfl⟩

/-- The place's error is none. -/
def plB (x y z : Int) : Bool := decide (placeE x y z = 0)
theorem plB_eq (x y z : Int) : plB x y z = (rngB x (-100000000) 100000000 && (rngB y (-100000000) 100000000 && rngB z (-100000000) 100000000)) := by
  unfold plB placeE
  rw [Bool.eq_iff_iff, decide_eq_true_iff, firstE_three, bnd_ok, bnd_ok, bnd_ok, Bool.and_eq_true, Bool.and_eq_true, rngB_true, rngB_true, rngB_true]

set_option maxHeartbeats 1000000 in
theorem IsPlace_any (x y z : Int) (w : World) : Calls Tryz.prog 45 #[v3 x y z] w fun e w' => e = .returned (.bool (plB x y z)) ∧ Below w.heap.size w w' := by
  rw [plB_eq]
  refine Calls.made fun R HR => ?_
  cases hx : rngB x (-100000000) 100000000 <;> cases hy : rngB y (-100000000) 100000000 <;> cases hz : rngB z (-100000000) 100000000
  all_goals
    rw [hx, hy, hz] at HR
    go_enter Tryz.func45, Tryz.ntmps45
    go_wp2_with (go_at_call 89; refine (isPlace_any _ _).mono ?_; rintro e w' ⟨rfl, rfl⟩)
    first | (go_ret; exact HR.out _ (by repeat' first | with_reducible exact Below.refl _ _ | with_reducible assumption | with_reducible refine Free.Grow.alloc ?_ _ | with_reducible refine Free.Grow.setCell ?_ (by first | omega | (simp; done) | (simp; omega)) _ | with_reducible refine Free.Grow.drew ?_ | with_reducible refine Free.Grow.trans ?_ (by assumption))) | exact HR.out _ (by repeat' first | with_reducible exact Below.refl _ _ | with_reducible assumption | with_reducible refine Free.Grow.alloc ?_ _ | with_reducible refine Free.Grow.setCell ?_ (by first | omega | (simp; done) | (simp; omega)) _ | with_reducible refine Free.Grow.drew ?_ | with_reducible refine Free.Grow.trans ?_ (by assumption))

set_option maxHeartbeats 1000000 in
theorem rCheckState_any (s : St) (w : World) : Calls Tryz.prog 11 #[stV s] w fun e w' => e = .returned (.int .i64 (stE s)) ∧ Below w.heap.size w w' := by
  have hE : stE s = if rngB s.t 0 1000000000 = true ∧ plB s.x s.y s.z = true ∧ rngB s.e 0 100000 = true then 0 else 2 := by
    unfold stE
    by_cases h : firstE [bnd s.t 0 1000000000, placeE s.x s.y s.z, bnd s.e 0 100000] = 0
    · rw [h, if_pos]; rw [firstE_three, bnd_ok, bnd_ok] at h; rw [rngB_true, rngB_true]; exact ⟨h.1, decide_eq_true h.2.1, h.2.2⟩
    · rw [if_neg (fun hc => h (by rw [firstE_three, bnd_ok, bnd_ok, ← rngB_true, ← rngB_true]; exact ⟨hc.1, of_decide_eq_true hc.2.1, hc.2.2⟩))]
      have hb : placeE s.x s.y s.z = 0 ∨ placeE s.x s.y s.z = 2 := by
        unfold placeE firstE firstE firstE firstE
        rcases bnd_or s.x (-100000000) 100000000 with a | a <;> rcases bnd_or s.y (-100000000) 100000000 with b | b <;> rcases bnd_or s.z (-100000000) 100000000 with c | c <;> simp [a, b, c]
      simp only [firstE] at h ⊢
      rcases bnd_or s.t 0 1000000000 with a | a <;> rcases hb with b | b <;> rcases bnd_or s.e 0 100000 with c | c <;> simp [a, b, c] at h ⊢
  rw [hE]
  clear hE
  refine Calls.made fun R HR => ?_
  cases hx : rngB s.t 0 1000000000 <;> cases hy : plB s.x s.y s.z <;> cases hz : rngB s.e 0 100000
  all_goals
    rw [hx, hy, hz] at HR
    simp only [Bool.false_eq_true, false_and, and_false, and_self, if_true, if_false] at HR
    go_enter Tryz.func11, Tryz.ntmps11
    go_wp2_with (first | (go_at_call 22; refine (rWithin_any _ _ _ _).mono ?_; rintro e w' ⟨rfl, rfl⟩) | (go_at_call 46; refine (isError_any _ _).mono ?_; rintro e w' ⟨rfl, rfl⟩) | (go_at_call 45; refine (IsPlace_any _ _ _ _).mono ?_; rintro e w1 ⟨rfl, hb1⟩; have hc1 := (Free.cells_of hb1).1; have hf1 := (Free.cells_of hb1).2; have hz1 := hb1.size; (try simp only [World.size_alloc, World.size_setCell, World.size_drew] at hz1); (try (have : w.heap.size < w1.heap.size := (by omega))); (try (have : w.heap.size < w1.heap.size + 1 := (by omega))); (try (have : w.heap.size < w1.heap.size + 1 + 1 := (by omega))); (try (have : w.heap.size + 1 < w1.heap.size := (by omega))); (try (have : w.heap.size + 1 < w1.heap.size + 1 := (by omega))); (try (have : w.heap.size + 1 < w1.heap.size + 1 + 1 := (by omega))); (try (have : w.heap.size + 1 + 1 < w1.heap.size := (by omega))); (try (have : w.heap.size + 1 + 1 < w1.heap.size + 1 := (by omega))); (try (have : w.heap.size + 1 + 1 < w1.heap.size + 1 + 1 := (by omega))); (try (have : w.heap.size + 1 + 1 + 1 < w1.heap.size := (by omega))); (try (have : w.heap.size + 1 + 1 + 1 < w1.heap.size + 1 := (by omega))); (try (have : w.heap.size + 1 + 1 + 1 < w1.heap.size + 1 + 1 := (by omega)))))
    first | (go_ret; exact HR.out _ (by repeat' first | with_reducible exact Below.refl _ _ | with_reducible assumption | with_reducible refine Free.Grow.alloc ?_ _ | with_reducible refine Free.Grow.setCell ?_ (by first | omega | (simp; done) | (simp; omega)) _ | with_reducible refine Free.Grow.drew ?_ | with_reducible refine Free.Grow.trans ?_ (by assumption))) | exact HR.out _ (by repeat' first | with_reducible exact Below.refl _ _ | with_reducible assumption | with_reducible refine Free.Grow.alloc ?_ _ | with_reducible refine Free.Grow.setCell ?_ (by first | omega | (simp; done) | (simp; omega)) _ | with_reducible refine Free.Grow.drew ?_ | with_reducible refine Free.Grow.trans ?_ (by assumption))

end Go.Proofs.YthhhkjbhhjcjoaaGreatDoor
