/- Chapter 2: arcs and sides. -/
import Derived.Test.Ythpjhpfebjjanaa02y
import Derived.RegionTactic
import Derived.ChangeAlike
import Derived.BigRegion
set_option linter.unusedSimpArgs false
set_option linter.unusedVariables false
namespace Go.Proofs.Ythpjhpfebjjanaa
open Go.RowKit Go.Ob

/-- The states of an arc are there. -/
def arcB (l : List St) (k : Int) : Bool := rngB k 0 (l.length - 2)
def arcE (l : List St) (k : Int) : Int := if arcB l k = true then 0 else 6
def arcA (l : List St) (k : Int) : St := if arcB l k = true then at_ l k.toNat else St0
def arcZ (l : List St) (k : Int) : St := if arcB l k = true then at_ l (k.toNat + 1) else St0

set_option maxRecDepth 100000 in
set_option maxHeartbeats 2000000 in
theorem arc_any (nm : ByteArray) (bd k : Int) (b off cap : Nat) (l : List St) (w : World) (hS : HasSts w b off l) (hbw : b < w.heap.size) (h1 : 2 ≤ l.length) (h2 : l.length ≤ 1000) (hcap : l.length ≤ cap) :
    Calls Try.prog 101 #[obV nm bd (some ⟨b, off, none⟩) l.length cap, .int .i64 k] w fun e w' => e = .returned (.tuple #[stV (arcA l k), stV (arcZ l k), .int .i64 (arcE l k)]) ∧ Below w.heap.size w w' := by
  have HW := Lib.hid (fun w => within_any k 0 (l.length - 2) w)
  have hn : (l.length : Int) ≤ 1000 := by omega
  have hn2 : (2 : Int) ≤ l.length := by omega
  cases hk : rngB k 0 (l.length - 2) with
  | false =>
    rw [hk] at HW
    have e1 : arcA l k = St0 := by unfold arcA arcB; rw [hk]; rfl
    have e2 : arcZ l k = St0 := by unfold arcZ arcB; rw [hk]; rfl
    have e3 : arcE l k = 6 := by unfold arcE arcB; rw [hk]; rfl
    rw [e1, e2, e3]
    clear e1 e2 e3 hk hS
    refine Calls.made fun R HR => ?_
    go_enter Try.func101, Try.ntmps101
    go_wp2_with (go_at_call 92; refine (HW.out _).mono ?_; rintro e w' ⟨rfl, rfl⟩)
    refine bodyPost_ret (v := .tuple #[stV St0, stV St0, .int .i64 6]) (by simp [results, Try.results101, go_sem, St0, *]) rfl ?_
    exact HR.out _ (by repeat' first | with_reducible exact Below.refl _ _ | with_reducible assumption | with_reducible refine Free.Grow.alloc ?_ _ | with_reducible refine Free.Grow.setCell ?_ (by first | omega | (simp; done) | (simp; omega)) _ | with_reducible refine Free.Grow.drew ?_ | with_reducible refine Free.Grow.trans ?_ (by assumption))
  | true =>
    rw [hk] at HW
    have e1 : arcA l k = at_ l k.toNat := by unfold arcA arcB; rw [hk]; rfl
    have e2 : arcZ l k = at_ l (k.toNat + 1) := by unfold arcZ arcB; rw [hk]; rfl
    have e3 : arcE l k = 0 := by unfold arcE arcB; rw [hk]; rfl
    rw [e1, e2, e3]
    obtain ⟨m0, m1⟩ := rngB_true.1 hk
    clear e1 e2 e3 hk
    obtain ⟨j, rfl⟩ := Int.eq_ofNat_of_zero_le m0
    simp only [Int.toNat_natCast]
    obtain ⟨c1, c2, c3, c4, c5⟩ := hS j (by omega)
    obtain ⟨d1, d2, d3, d4, d5⟩ := hS (j + 1) (by omega)
    generalize at_ l j = sa at *
    generalize at_ l (j + 1) = sb at *
    obtain ⟨p1, p2, p3, p4, p5⟩ := sa
    obtain ⟨q1, q2, q3, q4, q5⟩ := sb
    simp only at c1 c2 c3 c4 c5 d1 d2 d3 d4 d5
    have hj0 : (j : Int) < l.length := by omega
    have hj1 : (j : Int) + 1 < l.length := by omega
    have hj2 : (j : Int) ≤ 1000 := by omega
    have : b < w.heap.size := (by omega); have : b < w.heap.size + 1 := (by omega); have : b < w.heap.size + 1 + 1 := (by omega)
    clear hS
    refine Calls.made fun R HR => ?_
    go_enter Try.func101, Try.ntmps101
    go_wp2_with (go_at_call 92; refine (HW.out _).mono ?_; rintro e w' ⟨rfl, rfl⟩)
    go_region
    all_goals go_wp2
    all_goals
      refine bodyPost_ret (v := .tuple #[stV ⟨p1, p2, p3, p4, p5⟩, stV ⟨q1, q2, q3, q4, q5⟩, .int .i64 0]) (by simp [results, Try.results101, go_sem, *]) rfl ?_
      exact HR.out _ (by repeat' first | with_reducible exact Below.refl _ _ | with_reducible assumption | with_reducible refine Free.Grow.alloc ?_ _ | with_reducible refine Free.Grow.setCell ?_ (by first | omega | (simp; done) | (simp; omega)) _ | with_reducible refine Free.Grow.drew ?_ | with_reducible refine Free.Grow.trans ?_ (by assumption))
end Go.Proofs.Ythpjhpfebjjanaa
