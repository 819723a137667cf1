/- Chapter 2: the copy of an orbit; the orbit of the examples; ranges compared. -/
import Derived.Test.YthhhkjbhhjcjoaaGreatDoor02Own
set_option linter.unusedSimpArgs false
set_option linter.unusedVariables false
namespace Go.Proofs.YthhhkjbhhjcjoaaGreatDoor
open Go.RowKit Go.Ob

def passL : List St := [⟨0, 0, 0, 100, 1⟩, ⟨10, 50, 20, 100, 3⟩]
def pName : ByteArray := { data := #[112] }
set_option maxRecDepth 100000 in
set_option maxHeartbeats 2000000 in
theorem Ranges_any (a c : Option Addr) (cap cap2 : Nat) (l m : List (Int × Int)) (w : World) (ha : SlRgs w a l) (hc : SlRgs w c m) (hl : l.length ≤ 100000) (hm : m.length ≤ 100000) :
    Calls Tryz.prog 25 #[.slice a l.length cap, .slice c m.length cap2] w fun e w' => e = .returned (.bool (decide (l = m))) ∧ Below w.heap.size w w' := by
  refine Calls.made fun R HR => ?_
  have HQ : Hid (∀ b, decide (l = m) = b → ∀ w', Below w.heap.size w w' → R (.returned (.bool b)) w') := fun b h w' hb => by have := HR.out w' hb; rw [h] at this; exact this
  clear HR
  by_cases hlen : l.length = m.length
  · have hne : ((l.length : Int) != m.length) = false := by rw [hlen]; simp
    have HA := Lib.hid ha
    have HC := Lib.hid hc
    clear ha hc
    go_enter Tryz.func25, Tryz.ntmps25
    go_wp2
    go_loopw [5] (fun i wr => ∃ k : Nat, k ≤ l.length ∧ i = .int .i64 k ∧ Hid (∀ j, j < k → rg_ l j = rg_ m j) ∧ Below w.heap.size w wr) (fun i _ => l.length - (intOf i).toNat)
    case atStart => exact ⟨0, Nat.zero_le _, rfl, fun _ h => by omega, Below.refl _ _⟩
    case round =>
      obtain ⟨k, hk, rfl, hj, hbr⟩ := hrel
      have hz := hbr.size
      by_cases hlt : k < l.length
      · obtain ⟨b, off, rfl, hbw, hS⟩ := HA.out.mem (by intro e; rw [e] at hlt; simp at hlt)
        obtain ⟨b2, off2, rfl, hbw2, hS2⟩ := HC.out.mem (by intro e; rw [e] at hlen; rw [hlen] at hlt; simp at hlt)
        obtain ⟨d0, d1⟩ := hS.below hbr hbw k hlt
        obtain ⟨e0, e1⟩ := hS2.below hbr hbw2 k (by omega)
        have hk2 : (k : Int) < m.length := by omega
        have hk1 : (k : Int) < l.length := by omega
        have : b < wr.heap.size := (by omega); have : b < wr.heap.size + 1 := (by omega); have : b < wr.heap.size + 1 + 1 := (by omega); have : b2 < wr.heap.size := (by omega); have : b2 < wr.heap.size + 1 := (by omega); have : b2 < wr.heap.size + 1 + 1 := (by omega)
        clear hS hS2
        have HE : Hid (rg_ l k = rg_ m k ∨ l ≠ m) := by
          by_cases e : rg_ l k = rg_ m k
          · exact .inl e
          · exact .inr (fun h => e (by rw [h]))
        by_cases he : rg_ l k = rg_ m k
        · have HK : Hid (∀ j, j < k + 1 → rg_ l j = rg_ m j) := fun j h => by
            by_cases hjk : j = k
            · subst hjk; exact he
            · exact hj.out j (by omega)
          rw [he] at d0 d1
          clear he HE
          generalize rg_ m k = q at *
          obtain ⟨q1, q2⟩ := q
          simp only at d0 d1 e0 e1
          go_wp2
          refine Free.wp_region 9 #[0, 0, 3, 7, 0, 0, 48, 112, 255] (by kernel_rfl) (by kernel_rfl) ?_
          simp only [List.take_succ_cons, List.take_zero]
          iterate 9
            refine Free.E.q (by rfl) ?_
            apply Exists.intro
            refine ⟨fun u w' hc hb => ?_, ?_⟩
            go_simp
            (try go_ints); (try simp only [Ob.ite_imx, Ob.ite_imn]); first | exact rfl | (go_simp; exact rfl) | (simp only [↓IntWalk.iteOmega]; (try go_simp); exact rfl)
            simp only [Act.put, List.setIfInBounds_toArray, List.set_cons_zero, List.set_cons_succ, List.nil_append, List.cons_append]
          refine Free.E.nil (fun u w1 S hF => ?_)
          have hb1 := hF.below
          clear hF
          have hc1 := (Free.cells_of hb1).1
          have hf1 := (Free.cells_of hb1).2
          have hz1 := hb1.size
          try simp only [World.size_alloc, World.size_setCell, World.size_drew] at hz1
          (try (have : wr.heap.size < w1.heap.size := (by omega)))
          (try (have : wr.heap.size < w1.heap.size + 1 := (by omega)))
          (try (have : wr.heap.size < w1.heap.size + 1 + 1 := (by omega)))
          (try (have : wr.heap.size + 1 < w1.heap.size := (by omega)))
          (try (have : wr.heap.size + 1 < w1.heap.size + 1 := (by omega)))
          (try (have : wr.heap.size + 1 < w1.heap.size + 1 + 1 := (by omega)))
          (try (have : wr.heap.size + 1 + 1 < w1.heap.size := (by omega)))
          (try (have : wr.heap.size + 1 + 1 < w1.heap.size + 1 := (by omega)))
          (try (have : wr.heap.size + 1 + 1 < w1.heap.size + 1 + 1 := (by omega)))
          (try (have : wr.heap.size + 1 + 1 + 1 < w1.heap.size := (by omega)))
          (try (have : wr.heap.size + 1 + 1 + 1 < w1.heap.size + 1 := (by omega)))
          (try (have : wr.heap.size + 1 + 1 + 1 < w1.heap.size + 1 + 1 := (by omega)))
          simp only [List.drop_succ_cons, List.drop_zero, List.drop_nil]
          go_wp2
          go_roundw
          case measure => simp [intOf]; omega
          case rel => exact ⟨k + 1, by omega, by go_num, HK, by repeat' first | with_reducible exact Below.refl _ _ | with_reducible assumption | with_reducible refine Free.Grow.alloc ?_ _ | with_reducible refine Free.Grow.setCell ?_ (by first | omega | (simp; done) | (simp; omega)) _ | with_reducible refine Free.Grow.drew ?_ | with_reducible refine Free.Grow.trans ?_ (by assumption)⟩
        · have HR := Lib.hid (HQ.out false (by simpa using fun h : l = m => he (by rw [h])))
          clear HQ HE
          generalize rg_ m k = q at *
          generalize rg_ l k = q' at *
          obtain ⟨q1, q2⟩ := q
          obtain ⟨r1, r2⟩ := q'
          simp only at d0 d1 e0 e1
          have hb0 : ((r1 == q1) && (r2 == q2)) = false := by
            by_cases h1 : r1 = q1
            · by_cases h2 : r2 = q2
              · exact absurd (by rw [h1, h2]) he
              · simp [h2]
            · simp [h1]
          clear he
          by_cases h1 : r1 = q1
          · have h2 : ¬ r2 = q2 := by subst h1; simpa using hb0
            clear hb0
            subst h1
            go_wp2
            refine Free.wp_region 9 #[0, 0, 3, 7, 0, 0, 48, 112, 255] (by kernel_rfl) (by kernel_rfl) ?_
            simp only [List.take_succ_cons, List.take_zero]
            iterate 9
              refine Free.E.q (by rfl) ?_
              apply Exists.intro
              refine ⟨fun u w' hc hb => ?_, ?_⟩
              go_simp
              (try go_ints); (try simp only [Ob.ite_imx, Ob.ite_imn]); first | exact rfl | (go_simp; exact rfl) | (simp only [↓IntWalk.iteOmega]; (try go_simp); exact rfl)
              simp only [Act.put, List.setIfInBounds_toArray, List.set_cons_zero, List.set_cons_succ, List.nil_append, List.cons_append]
            refine Free.E.nil (fun u w1 S hF => ?_)
            have hb1 := hF.below
            clear hF
            have hc1 := (Free.cells_of hb1).1
            have hf1 := (Free.cells_of hb1).2
            have hz1 := hb1.size
            try simp only [World.size_alloc, World.size_setCell, World.size_drew] at hz1
            (try (have : wr.heap.size < w1.heap.size := (by omega)))
            (try (have : wr.heap.size < w1.heap.size + 1 := (by omega)))
            (try (have : wr.heap.size < w1.heap.size + 1 + 1 := (by omega)))
            (try (have : wr.heap.size + 1 < w1.heap.size := (by omega)))
            (try (have : wr.heap.size + 1 < w1.heap.size + 1 := (by omega)))
            (try (have : wr.heap.size + 1 < w1.heap.size + 1 + 1 := (by omega)))
            (try (have : wr.heap.size + 1 + 1 < w1.heap.size := (by omega)))
            (try (have : wr.heap.size + 1 + 1 < w1.heap.size + 1 := (by omega)))
            (try (have : wr.heap.size + 1 + 1 < w1.heap.size + 1 + 1 := (by omega)))
            (try (have : wr.heap.size + 1 + 1 + 1 < w1.heap.size := (by omega)))
            (try (have : wr.heap.size + 1 + 1 + 1 < w1.heap.size + 1 := (by omega)))
            (try (have : wr.heap.size + 1 + 1 + 1 < w1.heap.size + 1 + 1 := (by omega)))
            simp only [List.drop_succ_cons, List.drop_zero, List.drop_nil]
            go_wp2
            first | (go_ret; exact HR.out _ (by repeat' first | with_reducible exact Below.refl _ _ | with_reducible assumption | with_reducible refine Free.Grow.alloc ?_ _ | with_reducible refine Free.Grow.setCell ?_ (by first | omega | (simp; done) | (simp; omega)) _ | with_reducible refine Free.Grow.drew ?_ | with_reducible refine Free.Grow.trans ?_ (by assumption))) | exact HR.out _ (by repeat' first | with_reducible exact Below.refl _ _ | with_reducible assumption | with_reducible refine Free.Grow.alloc ?_ _ | with_reducible refine Free.Grow.setCell ?_ (by first | omega | (simp; done) | (simp; omega)) _ | with_reducible refine Free.Grow.drew ?_ | with_reducible refine Free.Grow.trans ?_ (by assumption))
          · clear hb0
            go_wp2
            refine Free.wp_region 9 #[0, 0, 3, 7, 0, 0, 48, 112, 255] (by kernel_rfl) (by kernel_rfl) ?_
            simp only [List.take_succ_cons, List.take_zero]
            iterate 9
              refine Free.E.q (by rfl) ?_
              apply Exists.intro
              refine ⟨fun u w' hc hb => ?_, ?_⟩
              go_simp
              (try go_ints); (try simp only [Ob.ite_imx, Ob.ite_imn]); first | exact rfl | (go_simp; exact rfl) | (simp only [↓IntWalk.iteOmega]; (try go_simp); exact rfl)
              simp only [Act.put, List.setIfInBounds_toArray, List.set_cons_zero, List.set_cons_succ, List.nil_append, List.cons_append]
            refine Free.E.nil (fun u w1 S hF => ?_)
            have hb1 := hF.below
            clear hF
            have hc1 := (Free.cells_of hb1).1
            have hf1 := (Free.cells_of hb1).2
            have hz1 := hb1.size
            try simp only [World.size_alloc, World.size_setCell, World.size_drew] at hz1
            (try (have : wr.heap.size < w1.heap.size := (by omega)))
            (try (have : wr.heap.size < w1.heap.size + 1 := (by omega)))
            (try (have : wr.heap.size < w1.heap.size + 1 + 1 := (by omega)))
            (try (have : wr.heap.size + 1 < w1.heap.size := (by omega)))
            (try (have : wr.heap.size + 1 < w1.heap.size + 1 := (by omega)))
            (try (have : wr.heap.size + 1 < w1.heap.size + 1 + 1 := (by omega)))
            (try (have : wr.heap.size + 1 + 1 < w1.heap.size := (by omega)))
            (try (have : wr.heap.size + 1 + 1 < w1.heap.size + 1 := (by omega)))
            (try (have : wr.heap.size + 1 + 1 < w1.heap.size + 1 + 1 := (by omega)))
            (try (have : wr.heap.size + 1 + 1 + 1 < w1.heap.size := (by omega)))
            (try (have : wr.heap.size + 1 + 1 + 1 < w1.heap.size + 1 := (by omega)))
            (try (have : wr.heap.size + 1 + 1 + 1 < w1.heap.size + 1 + 1 := (by omega)))
            simp only [List.drop_succ_cons, List.drop_zero, List.drop_nil]
            go_wp2
            first | (go_ret; exact HR.out _ (by repeat' first | with_reducible exact Below.refl _ _ | with_reducible assumption | with_reducible refine Free.Grow.alloc ?_ _ | with_reducible refine Free.Grow.setCell ?_ (by first | omega | (simp; done) | (simp; omega)) _ | with_reducible refine Free.Grow.drew ?_ | with_reducible refine Free.Grow.trans ?_ (by assumption))) | exact HR.out _ (by repeat' first | with_reducible exact Below.refl _ _ | with_reducible assumption | with_reducible refine Free.Grow.alloc ?_ _ | with_reducible refine Free.Grow.setCell ?_ (by first | omega | (simp; done) | (simp; omega)) _ | with_reducible refine Free.Grow.drew ?_ | with_reducible refine Free.Grow.trans ?_ (by assumption))
      · have hk1 : ¬ (k : Int) < l.length := by omega
        have HR := Lib.hid (HQ.out true (by
          rw [decide_eq_true_iff]
          apply List.ext_getElem hlen
          intro j h1 h2
          have := hj.out j (by omega)
          simpa [rg_, h1, h2] using this))
        clear HQ
        go_wp2
        first | (go_ret; exact HR.out _ (by repeat' first | with_reducible exact Below.refl _ _ | with_reducible assumption | with_reducible refine Free.Grow.alloc ?_ _ | with_reducible refine Free.Grow.setCell ?_ (by first | omega | (simp; done) | (simp; omega)) _ | with_reducible refine Free.Grow.drew ?_ | with_reducible refine Free.Grow.trans ?_ (by assumption))) | exact HR.out _ (by repeat' first | with_reducible exact Below.refl _ _ | with_reducible assumption | with_reducible refine Free.Grow.alloc ?_ _ | with_reducible refine Free.Grow.setCell ?_ (by first | omega | (simp; done) | (simp; omega)) _ | with_reducible refine Free.Grow.drew ?_ | with_reducible refine Free.Grow.trans ?_ (by assumption))
  · have hne : ((l.length : Int) != m.length) = true := by simpa using (by omega : ¬ (l.length : Int) = m.length)
    have HR := Lib.hid (HQ.out false (by simpa using fun h : l = m => hlen (by rw [h])))
    clear HQ ha hc
    go_enter Tryz.func25, Tryz.ntmps25
    go_wp2
    first | (go_ret; exact HR.out _ (by repeat' first | with_reducible exact Below.refl _ _ | with_reducible assumption | with_reducible refine Free.Grow.alloc ?_ _ | with_reducible refine Free.Grow.setCell ?_ (by first | omega | (simp; done) | (simp; omega)) _ | with_reducible refine Free.Grow.drew ?_ | with_reducible refine Free.Grow.trans ?_ (by assumption))) | exact HR.out _ (by repeat' first | with_reducible exact Below.refl _ _ | with_reducible assumption | with_reducible refine Free.Grow.alloc ?_ _ | with_reducible refine Free.Grow.setCell ?_ (by first | omega | (simp; done) | (simp; omega)) _ | with_reducible refine Free.Grow.drew ?_ | with_reducible refine Free.Grow.trans ?_ (by assumption))
end Go.Proofs.YthhhkjbhhjcjoaaGreatDoor
