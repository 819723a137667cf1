/- Chapter 2: the reference's CheckOrbit. -/
import Derived.Test.YthhhkjbhhjcjoaaGreatDoor02s
set_option linter.unusedSimpArgs false
set_option linter.unusedVariables false
namespace Go.Proofs.YthhhkjbhhjcjoaaGreatDoor
open Go.RowKit Go.Ob

/-- The first error of a state, as the reference looks for it. -/
theorem first_two {a b : Int} (h : a ≠ 0) : firstE [a, b] = a := by simp [firstE, h]
theorem first_two' {a b : Int} (h : a = 0) : firstE [a, b] = b := by
  by_cases hb : b = 0 <;> simp [firstE, h, hb]

set_option maxRecDepth 100000 in
set_option maxHeartbeats 4000000 in
theorem rCheckOrbit_any (nm : ByteArray) (bd : Int) (a : Option Addr) (cap : Nat) (l : List St) (w : World) (hO : OrbIn w nm a cap l) :
    Calls Tryz.prog 51 #[obV nm bd a l.length cap] w fun e w' => e = .returned (.tuple #[.int .i64 (orbE nm.data.toList bd l).1, .int .i64 (orbE nm.data.toList bd l).2]) ∧ Below w.heap.size w w' := by
  refine Calls.made fun R HR => ?_
  have HQ : Hid (∀ x y, orbE nm.data.toList bd l = (x, y) → ∀ w', Below w.heap.size w w' → R (.returned (.tuple #[.int .i64 x, .int .i64 y])) w') := fun x y h w' hb => by have := HR.out w' hb; rw [h] at this; exact this
  clear HR
  have hl := hO.len
  cases hn : nameB nm.data.toList with
  | false =>
    have HR := Lib.hid (HQ.out 0 4 (by simp [orbE, hn]))
    have hnm := hO.nm
    clear hO HQ
    go_enter Tryz.func51, Tryz.ntmps51
    go_wp2_with (go_at_call 93; refine (rIsName_any _ _ hnm).mono ?_; rintro e w' ⟨rfl, rfl⟩)
    first | (go_ret2; exact HR.out _ (by repeat' first | with_reducible exact Below.refl _ _ | with_reducible assumption | with_reducible refine Free.Grow.alloc ?_ _ | with_reducible refine Free.Grow.setCell ?_ (by first | omega | (simp; done) | (simp; omega)) _ | with_reducible refine Free.Grow.drew ?_ | with_reducible refine Free.Grow.trans ?_ (by assumption))) | exact HR.out _ (by repeat' first | with_reducible exact Below.refl _ _ | with_reducible assumption | with_reducible refine Free.Grow.alloc ?_ _ | with_reducible refine Free.Grow.setCell ?_ (by first | omega | (simp; done) | (simp; omega)) _ | with_reducible refine Free.Grow.drew ?_ | with_reducible refine Free.Grow.trans ?_ (by assumption))
  | true =>
    have hnm := hO.nm
    cases hbd : rngB bd 0 100000 with
    | false =>
      have HR := Lib.hid (HQ.out 0 2 (by have := rngB_false.1 hbd; simp only [orbE, hn]; rw [if_neg (by decide), if_pos (by omega)]))
      clear hO HQ
      go_enter Tryz.func51, Tryz.ntmps51
      go_wp2_with (first | (go_at_call 93; refine (rIsName_any _ _ hnm).mono ?_; rintro e w' ⟨rfl, rfl⟩) | (go_at_call 46; refine (isError_any _ _).mono ?_; rintro e w' ⟨rfl, rfl⟩))
      first | (go_ret2; exact HR.out _ (by repeat' first | with_reducible exact Below.refl _ _ | with_reducible assumption | with_reducible refine Free.Grow.alloc ?_ _ | with_reducible refine Free.Grow.setCell ?_ (by first | omega | (simp; done) | (simp; omega)) _ | with_reducible refine Free.Grow.drew ?_ | with_reducible refine Free.Grow.trans ?_ (by assumption))) | exact HR.out _ (by repeat' first | with_reducible exact Below.refl _ _ | with_reducible assumption | with_reducible refine Free.Grow.alloc ?_ _ | with_reducible refine Free.Grow.setCell ?_ (by first | omega | (simp; done) | (simp; omega)) _ | with_reducible refine Free.Grow.drew ?_ | with_reducible refine Free.Grow.trans ?_ (by assumption))
    | true =>
      have hbd2 := rngB_true.1 hbd
      by_cases h2 : l.length < 2
      · have HR := Lib.hid (HQ.out 0 10 (by simp only [orbE, hn]; rw [if_neg (by decide), if_neg (by omega), if_pos h2]))
        clear hO HQ
        have h2' : (l.length : Int) < 2 := by omega
        go_enter Tryz.func51, Tryz.ntmps51
        go_wp2_with (first | (go_at_call 93; refine (rIsName_any _ _ hnm).mono ?_; rintro e w' ⟨rfl, rfl⟩) | (go_at_call 46; refine (isError_any _ _).mono ?_; rintro e w' ⟨rfl, rfl⟩))
        first | (go_ret2; exact HR.out _ (by repeat' first | with_reducible exact Below.refl _ _ | with_reducible assumption | with_reducible refine Free.Grow.alloc ?_ _ | with_reducible refine Free.Grow.setCell ?_ (by first | omega | (simp; done) | (simp; omega)) _ | with_reducible refine Free.Grow.drew ?_ | with_reducible refine Free.Grow.trans ?_ (by assumption))) | exact HR.out _ (by repeat' first | with_reducible exact Below.refl _ _ | with_reducible assumption | with_reducible refine Free.Grow.alloc ?_ _ | with_reducible refine Free.Grow.setCell ?_ (by first | omega | (simp; done) | (simp; omega)) _ | with_reducible refine Free.Grow.drew ?_ | with_reducible refine Free.Grow.trans ?_ (by assumption))
      · by_cases h40 : 40 < l.length
        · have HR := Lib.hid (HQ.out 0 8 (by simp only [orbE, hn]; rw [if_neg (by decide), if_neg (by omega), if_neg h2, if_pos h40]))
          clear hO HQ
          have h2' : (2 : Int) ≤ l.length := by omega
          have h40' : (40 : Int) < l.length := by omega
          go_enter Tryz.func51, Tryz.ntmps51
          go_wp2_with (first | (go_at_call 93; refine (rIsName_any _ _ hnm).mono ?_; rintro e w' ⟨rfl, rfl⟩) | (go_at_call 46; refine (isError_any _ _).mono ?_; rintro e w' ⟨rfl, rfl⟩))
          first | (go_ret2; exact HR.out _ (by repeat' first | with_reducible exact Below.refl _ _ | with_reducible assumption | with_reducible refine Free.Grow.alloc ?_ _ | with_reducible refine Free.Grow.setCell ?_ (by first | omega | (simp; done) | (simp; omega)) _ | with_reducible refine Free.Grow.drew ?_ | with_reducible refine Free.Grow.trans ?_ (by assumption))) | exact HR.out _ (by repeat' first | with_reducible exact Below.refl _ _ | with_reducible assumption | with_reducible refine Free.Grow.alloc ?_ _ | with_reducible refine Free.Grow.setCell ?_ (by first | omega | (simp; done) | (simp; omega)) _ | with_reducible refine Free.Grow.drew ?_ | with_reducible refine Free.Grow.trans ?_ (by assumption))
        · have h2' : (2 : Int) ≤ l.length := by omega
          have h40' : (l.length : Int) ≤ 40 := by omega
          obtain ⟨b, off, rfl, hbw, hmem⟩ := hO.sts.mem (by intro e; rw [e] at h2; simp at h2)
          have HW := Lib.hid hO.sts.wf
          have hcap := hO.cap
          have HO : Hid (orbE nm.data.toList bd l = scanE l l.length 0) := by unfold Hid; simp only [orbE, hn]; rw [if_neg (by decide), if_neg (by omega), if_neg h2, if_neg h40]
          have HM := Lib.hid hmem
          obtain ⟨z1, -⟩ := hmem 0 (by omega)
          simp only [Nat.zero_mul, Nat.add_zero] at z1
          clear hO hmem
          go_enter Tryz.func51, Tryz.ntmps51
          go_wp2_with (first | (go_at_call 93; refine (rIsName_any _ _ hnm).mono ?_; rintro e w' ⟨rfl, rfl⟩) | (go_at_call 46; refine (isError_any _ _).mono ?_; rintro e w' ⟨rfl, rfl⟩))
          go_loopw [4, 5, 6] (fun i _ _ wr => ∃ k : Nat, k ≤ l.length ∧ i = .int .i64 k ∧ scanE l l.length 0 = scanE l (l.length - k) k ∧ preOk l k ∧ Below (w.heap.size + 1) (w.alloc (.cells #[.string nm, .int .i64 bd, .slice (some ⟨b, off, none⟩) l.length cap] 37)) wr) (fun i _ _ _ => l.length - (intOf i).toNat)
          case atStart => exact ⟨0, Nat.zero_le _, rfl, rfl, fun _ h => by omega, Below.refl _ _⟩
          case round =>
            obtain ⟨k, hk, rfl, hsc, hpre, hbr0⟩ := hrel
            have hbr : Below (w.alloc (.cells #[.string nm, .int .i64 bd, .slice (some ⟨b, off, none⟩) l.length cap] 37)).heap.size (w.alloc (.cells #[.string nm, .int .i64 bd, .slice (some ⟨b, off, none⟩) l.length cap] 37)) wr := by rw [World.size_alloc]; exact hbr0
            have hcr := (Free.cells_of hbr).1
            have hzr := hbr.size
            simp only [World.size_alloc] at hzr
            have hbg : Below w.heap.size w wr := by repeat' first | with_reducible exact Below.refl _ _ | with_reducible assumption | with_reducible refine Free.Grow.alloc ?_ _ | with_reducible refine Free.Grow.setCell ?_ (by first | omega | (simp; done) | (simp; omega)) _ | with_reducible refine Free.Grow.drew ?_ | with_reducible refine Free.Grow.trans ?_ (by assumption)
            have HSC := Lib.hid hsc
            have HPR := Lib.hid hpre
            have HB0 := Lib.hid hbr0
            clear hsc hpre hbr0
            have : w.heap.size < wr.heap.size := (by omega); have : w.heap.size < wr.heap.size + 1 := (by omega); have : w.heap.size < wr.heap.size + 1 + 1 := (by omega); have : b < wr.heap.size := (by omega); have : b < wr.heap.size + 1 := (by omega); have : b < wr.heap.size + 1 + 1 := (by omega)
            by_cases hlt : k < l.length
            · obtain ⟨c1, c2, c3, c4, c5⟩ := HM.out k hlt
              have HWk := HW.out k hlt
              obtain ⟨s, hs⟩ : ∃ s, at_ l k = s := ⟨_, rfl⟩
              rw [hs] at c1 c2 c3 c4 c5 HWk
              have HSs := Lib.hid hs
              clear hs
              by_cases he : stE s = 0
              · have he2 : (stE s != 0) = false := by simp [he]
                have hst := stE_ok.1 he
                have ht0 := hst.t0
                have ht1 := hst.t1
                clear hst
                have HE := Lib.hid he
                clear he
                have hcmp : firstE [stE (at_ l k), tickE l k (at_ l k).t] = tickE l k s.t := by rw [HSs.out, first_two' HE.out]
                have HCMP := Lib.hid hcmp
                clear hcmp
                by_cases hk0 : k = 0
                · have hg : ¬ 0 < k := by omega
                  have h00 : (at_ l 0).t = s.t := by rw [← HSs.out, hk0]
                  have hd1 : ¬ s.t - (at_ l 0).t > 20000 := by omega
                  have hd0 : 0 ≤ (at_ l 0).t := by omega
                  have hd2 : (at_ l 0).t ≤ 1000000000 := by omega
                  have HZ : Hid (firstE [stE (at_ l k), tickE l k (at_ l k).t] = 0) := by unfold Hid; rw [HCMP.out]; unfold tickE; rw [if_pos hk0]
                  have HK := Lib.hid hk0
                  have H00 := Lib.hid h00
                  clear hk0 h00
                  go_wp2_with (go_at_call 11; refine (rCheckState_any _ _).mono ?_; rintro e w1 ⟨rfl, hb1⟩; have hc1 := (Free.cells_of hb1).1; have hf1 := (Free.cells_of hb1).2; have hz1 := hb1.size; (try simp only [World.size_alloc, World.size_setCell, World.size_drew] at hz1); (try (have : w.heap.size < w1.heap.size := (by omega))); (try (have : w.heap.size < w1.heap.size + 1 := (by omega))); (try (have : w.heap.size < w1.heap.size + 1 + 1 := (by omega))); (try (have : w.heap.size + 1 < w1.heap.size := (by omega))); (try (have : w.heap.size + 1 < w1.heap.size + 1 := (by omega))); (try (have : w.heap.size + 1 < w1.heap.size + 1 + 1 := (by omega))); (try (have : w.heap.size + 1 + 1 < w1.heap.size := (by omega))); (try (have : w.heap.size + 1 + 1 < w1.heap.size + 1 := (by omega))); (try (have : w.heap.size + 1 + 1 < w1.heap.size + 1 + 1 := (by omega))); (try (have : w.heap.size + 1 + 1 + 1 < w1.heap.size := (by omega))); (try (have : w.heap.size + 1 + 1 + 1 < w1.heap.size + 1 := (by omega))); (try (have : w.heap.size + 1 + 1 + 1 < w1.heap.size + 1 + 1 := (by omega))); (try (have : wr.heap.size < w1.heap.size := (by omega))); (try (have : wr.heap.size < w1.heap.size + 1 := (by omega))); (try (have : wr.heap.size < w1.heap.size + 1 + 1 := (by omega))); (try (have : wr.heap.size + 1 < w1.heap.size := (by omega))); (try (have : wr.heap.size + 1 < w1.heap.size + 1 := (by omega))); (try (have : wr.heap.size + 1 < w1.heap.size + 1 + 1 := (by omega))); (try (have : wr.heap.size + 1 + 1 < w1.heap.size := (by omega))); (try (have : wr.heap.size + 1 + 1 < w1.heap.size + 1 := (by omega))); (try (have : wr.heap.size + 1 + 1 < w1.heap.size + 1 + 1 := (by omega))); (try (have : wr.heap.size + 1 + 1 + 1 < w1.heap.size := (by omega))); (try (have : wr.heap.size + 1 + 1 + 1 < w1.heap.size + 1 := (by omega))); (try (have : wr.heap.size + 1 + 1 + 1 < w1.heap.size + 1 + 1 := (by omega))); (try (have : b < w1.heap.size := (by omega))); (try (have : b < w1.heap.size + 1 := (by omega))); (try (have : b < w1.heap.size + 1 + 1 := (by omega))))
                  refine Free.wp_region 14 #[0, 1, 3, 7, 15, 7, 39, 7, 135, 487, 999, 2023, 4095, 8191] (by kernel_rfl) (by kernel_rfl) ?_
                  simp only [List.take_succ_cons, List.take_zero]
                  iterate 3
                    refine Free.E.q (by rfl) ?_
                    apply Exists.intro
                    refine ⟨fun u w' hc hb => ?_, ?_⟩
                    go_simp
                    (try go_ints); (try simp only [Ob.ite_imx, Ob.ite_imn]); first | exact rfl | (go_simp; exact rfl) | (simp only [↓IntWalk.iteOmega]; (try go_simp); exact rfl)
                    simp only [Act.put, List.setIfInBounds_toArray, List.set_cons_zero, List.set_cons_succ, List.nil_append, List.cons_append]
                  iterate 10
                    first
                      | (refine Free.E.no ?_ ?_
                         (intro _; rfl)
                         simp only [Act.put, List.setIfInBounds_toArray, List.set_cons_zero, List.set_cons_succ, List.nil_append, List.cons_append])
                      | (refine Free.E.qy ?_ ?_
                         (intro _; rfl)
                         apply Exists.intro
                         refine ⟨fun u w' hc hb => ?_, ?_⟩
                         go_simp
                         (try go_ints); (try simp only [Ob.ite_imx, Ob.ite_imn]); first | exact rfl | (go_simp; exact rfl) | (simp only [↓IntWalk.iteOmega]; (try go_simp); exact rfl)
                         simp only [Act.put, List.setIfInBounds_toArray, List.set_cons_zero, List.set_cons_succ, List.nil_append, List.cons_append])
                  iterate 1
                    refine Free.E.q (by rfl) ?_
                    apply Exists.intro
                    refine ⟨fun u w' hc hb => ?_, ?_⟩
                    go_simp
                    (try go_ints); (try simp only [Ob.ite_imx, Ob.ite_imn]); first | exact rfl | (go_simp; exact rfl) | (simp only [↓IntWalk.iteOmega]; (try go_simp); exact rfl)
                    simp only [Act.put, List.setIfInBounds_toArray, List.set_cons_zero, List.set_cons_succ, List.nil_append, List.cons_append]
                  refine Free.E.nil (fun u w2 S hF => ?_)
                  have hb2 := hF.below
                  clear hF
                  have hc2 := (Free.cells_of hb2).1
                  have hf2 := (Free.cells_of hb2).2
                  have hz2 := hb2.size
                  try simp only [World.size_alloc, World.size_setCell, World.size_drew] at hz2
                  (try (have : w.heap.size < w2.heap.size := (by omega)))
                  (try (have : w.heap.size < w2.heap.size + 1 := (by omega)))
                  (try (have : w.heap.size < w2.heap.size + 1 + 1 := (by omega)))
                  (try (have : w.heap.size + 1 < w2.heap.size := (by omega)))
                  (try (have : w.heap.size + 1 < w2.heap.size + 1 := (by omega)))
                  (try (have : w.heap.size + 1 < w2.heap.size + 1 + 1 := (by omega)))
                  (try (have : w.heap.size + 1 + 1 < w2.heap.size := (by omega)))
                  (try (have : w.heap.size + 1 + 1 < w2.heap.size + 1 := (by omega)))
                  (try (have : w.heap.size + 1 + 1 < w2.heap.size + 1 + 1 := (by omega)))
                  (try (have : w.heap.size + 1 + 1 + 1 < w2.heap.size := (by omega)))
                  (try (have : w.heap.size + 1 + 1 + 1 < w2.heap.size + 1 := (by omega)))
                  (try (have : w.heap.size + 1 + 1 + 1 < w2.heap.size + 1 + 1 := (by omega)))
                  (try (have : wr.heap.size < w2.heap.size := (by omega)))
                  (try (have : wr.heap.size < w2.heap.size + 1 := (by omega)))
                  (try (have : wr.heap.size < w2.heap.size + 1 + 1 := (by omega)))
                  (try (have : wr.heap.size + 1 < w2.heap.size := (by omega)))
                  (try (have : wr.heap.size + 1 < w2.heap.size + 1 := (by omega)))
                  (try (have : wr.heap.size + 1 < w2.heap.size + 1 + 1 := (by omega)))
                  (try (have : wr.heap.size + 1 + 1 < w2.heap.size := (by omega)))
                  (try (have : wr.heap.size + 1 + 1 < w2.heap.size + 1 := (by omega)))
                  (try (have : wr.heap.size + 1 + 1 < w2.heap.size + 1 + 1 := (by omega)))
                  (try (have : wr.heap.size + 1 + 1 + 1 < w2.heap.size := (by omega)))
                  (try (have : wr.heap.size + 1 + 1 + 1 < w2.heap.size + 1 := (by omega)))
                  (try (have : wr.heap.size + 1 + 1 + 1 < w2.heap.size + 1 + 1 := (by omega)))
                  (try (have : b < w2.heap.size := (by omega)))
                  (try (have : b < w2.heap.size + 1 := (by omega)))
                  (try (have : b < w2.heap.size + 1 + 1 := (by omega)))
                  simp only [List.drop_succ_cons, List.drop_zero, List.drop_nil]
                  go_wp2
                  refine Free.wp_region 9 #[0, 1, 0, 4, 12, 28, 60, 127, 255] (by kernel_rfl) (by kernel_rfl) ?_
                  simp only [List.take_succ_cons, List.take_zero]
                  iterate 9
                    refine Free.E.q (by rfl) ?_
                    apply Exists.intro
                    refine ⟨fun u w' hc hb => ?_, ?_⟩
                    go_simp
                    (try go_ints); (try simp only [Ob.ite_imx, Ob.ite_imn]); first | exact rfl | (go_simp; exact rfl) | (simp only [↓IntWalk.iteOmega]; (try go_simp); exact rfl)
                    simp only [Act.put, List.setIfInBounds_toArray, List.set_cons_zero, List.set_cons_succ, List.nil_append, List.cons_append]
                  refine Free.E.nil (fun u w3 S hF => ?_)
                  have hb3 := hF.below
                  clear hF
                  have hc3 := (Free.cells_of hb3).1
                  have hf3 := (Free.cells_of hb3).2
                  have hz3 := hb3.size
                  try simp only [World.size_alloc, World.size_setCell, World.size_drew] at hz3
                  (try (have : w.heap.size < w3.heap.size := (by omega)))
                  (try (have : w.heap.size < w3.heap.size + 1 := (by omega)))
                  (try (have : w.heap.size < w3.heap.size + 1 + 1 := (by omega)))
                  (try (have : w.heap.size + 1 < w3.heap.size := (by omega)))
                  (try (have : w.heap.size + 1 < w3.heap.size + 1 := (by omega)))
                  (try (have : w.heap.size + 1 < w3.heap.size + 1 + 1 := (by omega)))
                  (try (have : w.heap.size + 1 + 1 < w3.heap.size := (by omega)))
                  (try (have : w.heap.size + 1 + 1 < w3.heap.size + 1 := (by omega)))
                  (try (have : w.heap.size + 1 + 1 < w3.heap.size + 1 + 1 := (by omega)))
                  (try (have : w.heap.size + 1 + 1 + 1 < w3.heap.size := (by omega)))
                  (try (have : w.heap.size + 1 + 1 + 1 < w3.heap.size + 1 := (by omega)))
                  (try (have : w.heap.size + 1 + 1 + 1 < w3.heap.size + 1 + 1 := (by omega)))
                  (try (have : wr.heap.size < w3.heap.size := (by omega)))
                  (try (have : wr.heap.size < w3.heap.size + 1 := (by omega)))
                  (try (have : wr.heap.size < w3.heap.size + 1 + 1 := (by omega)))
                  (try (have : wr.heap.size + 1 < w3.heap.size := (by omega)))
                  (try (have : wr.heap.size + 1 < w3.heap.size + 1 := (by omega)))
                  (try (have : wr.heap.size + 1 < w3.heap.size + 1 + 1 := (by omega)))
                  (try (have : wr.heap.size + 1 + 1 < w3.heap.size := (by omega)))
                  (try (have : wr.heap.size + 1 + 1 < w3.heap.size + 1 := (by omega)))
                  (try (have : wr.heap.size + 1 + 1 < w3.heap.size + 1 + 1 := (by omega)))
                  (try (have : wr.heap.size + 1 + 1 + 1 < w3.heap.size := (by omega)))
                  (try (have : wr.heap.size + 1 + 1 + 1 < w3.heap.size + 1 := (by omega)))
                  (try (have : wr.heap.size + 1 + 1 + 1 < w3.heap.size + 1 + 1 := (by omega)))
                  (try (have : b < w3.heap.size := (by omega)))
                  (try (have : b < w3.heap.size + 1 := (by omega)))
                  (try (have : b < w3.heap.size + 1 + 1 := (by omega)))
                  simp only [List.drop_succ_cons, List.drop_zero, List.drop_nil]
                  go_wp2
                  go_roundw
                  case measure => simp [intOf]; omega
                  case rel => exact ⟨k + 1, by omega, by go_num, HSC.out.trans (scan_step hlt HZ.out), HPR.out.succ HZ.out, (by rw [← World.size_alloc (w := w) (o := .cells #[.string nm, .int .i64 bd, .slice (some ⟨b, off, none⟩) l.length cap] 37)]; clear hbg; repeat' first | with_reducible exact Below.refl _ _ | with_reducible assumption | with_reducible refine Free.Grow.alloc ?_ _ | with_reducible refine Free.Grow.setCell ?_ (by first | omega | (simp; done) | (simp; omega)) _ | with_reducible refine Free.Grow.drew ?_ | with_reducible refine Free.Grow.trans ?_ (by assumption))⟩
                · have hg : 0 < k := by omega
                  obtain ⟨d1, -⟩ := HM.out (k - 1) (by omega)
                  have hf1 := HPR.out.first hk0
                  obtain ⟨hf0, hf1⟩ := hf1
                  have hk1 : (1 : Int) ≤ k := by omega
                  have hk2 : (k : Int) ≤ 40 := by omega
                  have hk3 : ((k : Int) - 1).toNat = k - 1 := by omega
                  have hk4 : (k : Int) - 1 < l.length := by omega
                  have hk5 : (0 : Int) ≤ (k : Int) - 1 := by omega
                  by_cases hle : s.t ≤ (at_ l (k - 1)).t
                  · have HR := Lib.hid (HQ.out k 9 (by
                      have hz : firstE [stE (at_ l k), tickE l k (at_ l k).t] = 9 := by rw [HCMP.out]; unfold tickE; rw [if_neg hk0, if_pos hle]
                      rw [HO.out, HSC.out, scan_stop hlt (by rw [hz]; decide), hz]))
                    have hle2 : decide (s.t ≤ (at_ l (k - 1)).t) = true := by simpa using hle
                    clear HQ
                    go_wp2_with (go_at_call 11; refine (rCheckState_any _ _).mono ?_; rintro e w1 ⟨rfl, hb1⟩; have hc1 := (Free.cells_of hb1).1; have hf1 := (Free.cells_of hb1).2; have hz1 := hb1.size; (try simp only [World.size_alloc, World.size_setCell, World.size_drew] at hz1); (try (have : w.heap.size < w1.heap.size := (by omega))); (try (have : w.heap.size < w1.heap.size + 1 := (by omega))); (try (have : w.heap.size < w1.heap.size + 1 + 1 := (by omega))); (try (have : w.heap.size + 1 < w1.heap.size := (by omega))); (try (have : w.heap.size + 1 < w1.heap.size + 1 := (by omega))); (try (have : w.heap.size + 1 < w1.heap.size + 1 + 1 := (by omega))); (try (have : w.heap.size + 1 + 1 < w1.heap.size := (by omega))); (try (have : w.heap.size + 1 + 1 < w1.heap.size + 1 := (by omega))); (try (have : w.heap.size + 1 + 1 < w1.heap.size + 1 + 1 := (by omega))); (try (have : w.heap.size + 1 + 1 + 1 < w1.heap.size := (by omega))); (try (have : w.heap.size + 1 + 1 + 1 < w1.heap.size + 1 := (by omega))); (try (have : w.heap.size + 1 + 1 + 1 < w1.heap.size + 1 + 1 := (by omega))); (try (have : wr.heap.size < w1.heap.size := (by omega))); (try (have : wr.heap.size < w1.heap.size + 1 := (by omega))); (try (have : wr.heap.size < w1.heap.size + 1 + 1 := (by omega))); (try (have : wr.heap.size + 1 < w1.heap.size := (by omega))); (try (have : wr.heap.size + 1 < w1.heap.size + 1 := (by omega))); (try (have : wr.heap.size + 1 < w1.heap.size + 1 + 1 := (by omega))); (try (have : wr.heap.size + 1 + 1 < w1.heap.size := (by omega))); (try (have : wr.heap.size + 1 + 1 < w1.heap.size + 1 := (by omega))); (try (have : wr.heap.size + 1 + 1 < w1.heap.size + 1 + 1 := (by omega))); (try (have : wr.heap.size + 1 + 1 + 1 < w1.heap.size := (by omega))); (try (have : wr.heap.size + 1 + 1 + 1 < w1.heap.size + 1 := (by omega))); (try (have : wr.heap.size + 1 + 1 + 1 < w1.heap.size + 1 + 1 := (by omega))); (try (have : b < w1.heap.size := (by omega))); (try (have : b < w1.heap.size + 1 := (by omega))); (try (have : b < w1.heap.size + 1 + 1 := (by omega))))
                    refine Free.wp_region 14 #[0, 1, 3, 7, 15, 7, 39, 7, 135, 487, 999, 2023, 4095, 8191] (by kernel_rfl) (by kernel_rfl) ?_
                    simp only [List.take_succ_cons, List.take_zero]
                    iterate 3
                      refine Free.E.q (by rfl) ?_
                      apply Exists.intro
                      refine ⟨fun u w' hc hb => ?_, ?_⟩
                      go_simp
                      (try go_ints); (try simp only [Ob.ite_imx, Ob.ite_imn]); first | exact rfl | (go_simp; exact rfl) | (simp only [↓IntWalk.iteOmega]; (try go_simp); exact rfl)
                      simp only [Act.put, List.setIfInBounds_toArray, List.set_cons_zero, List.set_cons_succ, List.nil_append, List.cons_append]
                    iterate 10
                      first
                        | (refine Free.E.no ?_ ?_
                           (intro _; rfl)
                           simp only [Act.put, List.setIfInBounds_toArray, List.set_cons_zero, List.set_cons_succ, List.nil_append, List.cons_append])
                        | (refine Free.E.qy ?_ ?_
                           (intro _; rfl)
                           apply Exists.intro
                           refine ⟨fun u w' hc hb => ?_, ?_⟩
                           go_simp
                           (try go_ints); (try simp only [Ob.ite_imx, Ob.ite_imn]); first | exact rfl | (go_simp; exact rfl) | (simp only [↓IntWalk.iteOmega]; (try go_simp); exact rfl)
                           simp only [Act.put, List.setIfInBounds_toArray, List.set_cons_zero, List.set_cons_succ, List.nil_append, List.cons_append])
                    iterate 1
                      refine Free.E.q (by rfl) ?_
                      apply Exists.intro
                      refine ⟨fun u w' hc hb => ?_, ?_⟩
                      go_simp
                      (try go_ints); (try simp only [Ob.ite_imx, Ob.ite_imn]); first | exact rfl | (go_simp; exact rfl) | (simp only [↓IntWalk.iteOmega]; (try go_simp); exact rfl)
                      simp only [Act.put, List.setIfInBounds_toArray, List.set_cons_zero, List.set_cons_succ, List.nil_append, List.cons_append]
                    refine Free.E.nil (fun u w2 S hF => ?_)
                    have hb2 := hF.below
                    clear hF
                    have hc2 := (Free.cells_of hb2).1
                    have hf2 := (Free.cells_of hb2).2
                    have hz2 := hb2.size
                    try simp only [World.size_alloc, World.size_setCell, World.size_drew] at hz2
                    (try (have : w.heap.size < w2.heap.size := (by omega)))
                    (try (have : w.heap.size < w2.heap.size + 1 := (by omega)))
                    (try (have : w.heap.size < w2.heap.size + 1 + 1 := (by omega)))
                    (try (have : w.heap.size + 1 < w2.heap.size := (by omega)))
                    (try (have : w.heap.size + 1 < w2.heap.size + 1 := (by omega)))
                    (try (have : w.heap.size + 1 < w2.heap.size + 1 + 1 := (by omega)))
                    (try (have : w.heap.size + 1 + 1 < w2.heap.size := (by omega)))
                    (try (have : w.heap.size + 1 + 1 < w2.heap.size + 1 := (by omega)))
                    (try (have : w.heap.size + 1 + 1 < w2.heap.size + 1 + 1 := (by omega)))
                    (try (have : w.heap.size + 1 + 1 + 1 < w2.heap.size := (by omega)))
                    (try (have : w.heap.size + 1 + 1 + 1 < w2.heap.size + 1 := (by omega)))
                    (try (have : w.heap.size + 1 + 1 + 1 < w2.heap.size + 1 + 1 := (by omega)))
                    (try (have : wr.heap.size < w2.heap.size := (by omega)))
                    (try (have : wr.heap.size < w2.heap.size + 1 := (by omega)))
                    (try (have : wr.heap.size < w2.heap.size + 1 + 1 := (by omega)))
                    (try (have : wr.heap.size + 1 < w2.heap.size := (by omega)))
                    (try (have : wr.heap.size + 1 < w2.heap.size + 1 := (by omega)))
                    (try (have : wr.heap.size + 1 < w2.heap.size + 1 + 1 := (by omega)))
                    (try (have : wr.heap.size + 1 + 1 < w2.heap.size := (by omega)))
                    (try (have : wr.heap.size + 1 + 1 < w2.heap.size + 1 := (by omega)))
                    (try (have : wr.heap.size + 1 + 1 < w2.heap.size + 1 + 1 := (by omega)))
                    (try (have : wr.heap.size + 1 + 1 + 1 < w2.heap.size := (by omega)))
                    (try (have : wr.heap.size + 1 + 1 + 1 < w2.heap.size + 1 := (by omega)))
                    (try (have : wr.heap.size + 1 + 1 + 1 < w2.heap.size + 1 + 1 := (by omega)))
                    (try (have : b < w2.heap.size := (by omega)))
                    (try (have : b < w2.heap.size + 1 := (by omega)))
                    (try (have : b < w2.heap.size + 1 + 1 := (by omega)))
                    simp only [List.drop_succ_cons, List.drop_zero, List.drop_nil]
                    go_wp2
                    first | (go_ret2; exact HR.out _ (by repeat' first | with_reducible exact Below.refl _ _ | with_reducible assumption | with_reducible refine Free.Grow.alloc ?_ _ | with_reducible refine Free.Grow.setCell ?_ (by first | omega | (simp; done) | (simp; omega)) _ | with_reducible refine Free.Grow.drew ?_ | with_reducible refine Free.Grow.trans ?_ (by assumption))) | exact HR.out _ (by repeat' first | with_reducible exact Below.refl _ _ | with_reducible assumption | with_reducible refine Free.Grow.alloc ?_ _ | with_reducible refine Free.Grow.setCell ?_ (by first | omega | (simp; done) | (simp; omega)) _ | with_reducible refine Free.Grow.drew ?_ | with_reducible refine Free.Grow.trans ?_ (by assumption))
                  · have hle2 : decide (s.t ≤ (at_ l (k - 1)).t) = false := by simpa using hle
                    by_cases hgt : s.t - (at_ l 0).t > 20000
                    · have HR := Lib.hid (HQ.out k 8 (by
                        have hz : firstE [stE (at_ l k), tickE l k (at_ l k).t] = 8 := by rw [HCMP.out]; unfold tickE; rw [if_neg hk0, if_neg hle, if_pos hgt]
                        rw [HO.out, HSC.out, scan_stop hlt (by rw [hz]; decide), hz]))
                      clear HQ
                      go_wp2_with (go_at_call 11; refine (rCheckState_any _ _).mono ?_; rintro e w1 ⟨rfl, hb1⟩; have hc1 := (Free.cells_of hb1).1; have hf1 := (Free.cells_of hb1).2; have hz1 := hb1.size; (try simp only [World.size_alloc, World.size_setCell, World.size_drew] at hz1); (try (have : w.heap.size < w1.heap.size := (by omega))); (try (have : w.heap.size < w1.heap.size + 1 := (by omega))); (try (have : w.heap.size < w1.heap.size + 1 + 1 := (by omega))); (try (have : w.heap.size + 1 < w1.heap.size := (by omega))); (try (have : w.heap.size + 1 < w1.heap.size + 1 := (by omega))); (try (have : w.heap.size + 1 < w1.heap.size + 1 + 1 := (by omega))); (try (have : w.heap.size + 1 + 1 < w1.heap.size := (by omega))); (try (have : w.heap.size + 1 + 1 < w1.heap.size + 1 := (by omega))); (try (have : w.heap.size + 1 + 1 < w1.heap.size + 1 + 1 := (by omega))); (try (have : w.heap.size + 1 + 1 + 1 < w1.heap.size := (by omega))); (try (have : w.heap.size + 1 + 1 + 1 < w1.heap.size + 1 := (by omega))); (try (have : w.heap.size + 1 + 1 + 1 < w1.heap.size + 1 + 1 := (by omega))); (try (have : wr.heap.size < w1.heap.size := (by omega))); (try (have : wr.heap.size < w1.heap.size + 1 := (by omega))); (try (have : wr.heap.size < w1.heap.size + 1 + 1 := (by omega))); (try (have : wr.heap.size + 1 < w1.heap.size := (by omega))); (try (have : wr.heap.size + 1 < w1.heap.size + 1 := (by omega))); (try (have : wr.heap.size + 1 < w1.heap.size + 1 + 1 := (by omega))); (try (have : wr.heap.size + 1 + 1 < w1.heap.size := (by omega))); (try (have : wr.heap.size + 1 + 1 < w1.heap.size + 1 := (by omega))); (try (have : wr.heap.size + 1 + 1 < w1.heap.size + 1 + 1 := (by omega))); (try (have : wr.heap.size + 1 + 1 + 1 < w1.heap.size := (by omega))); (try (have : wr.heap.size + 1 + 1 + 1 < w1.heap.size + 1 := (by omega))); (try (have : wr.heap.size + 1 + 1 + 1 < w1.heap.size + 1 + 1 := (by omega))); (try (have : b < w1.heap.size := (by omega))); (try (have : b < w1.heap.size + 1 := (by omega))); (try (have : b < w1.heap.size + 1 + 1 := (by omega))))
                      refine Free.wp_region 14 #[0, 1, 3, 7, 15, 7, 39, 7, 135, 487, 999, 2023, 4095, 8191] (by kernel_rfl) (by kernel_rfl) ?_
                      simp only [List.take_succ_cons, List.take_zero]
                      iterate 3
                        refine Free.E.q (by rfl) ?_
                        apply Exists.intro
                        refine ⟨fun u w' hc hb => ?_, ?_⟩
                        go_simp
                        (try go_ints); (try simp only [Ob.ite_imx, Ob.ite_imn]); first | exact rfl | (go_simp; exact rfl) | (simp only [↓IntWalk.iteOmega]; (try go_simp); exact rfl)
                        simp only [Act.put, List.setIfInBounds_toArray, List.set_cons_zero, List.set_cons_succ, List.nil_append, List.cons_append]
                      iterate 10
                        first
                          | (refine Free.E.no ?_ ?_
                             (intro _; rfl)
                             simp only [Act.put, List.setIfInBounds_toArray, List.set_cons_zero, List.set_cons_succ, List.nil_append, List.cons_append])
                          | (refine Free.E.qy ?_ ?_
                             (intro _; rfl)
                             apply Exists.intro
                             refine ⟨fun u w' hc hb => ?_, ?_⟩
                             go_simp
                             (try go_ints); (try simp only [Ob.ite_imx, Ob.ite_imn]); first | exact rfl | (go_simp; exact rfl) | (simp only [↓IntWalk.iteOmega]; (try go_simp); exact rfl)
                             simp only [Act.put, List.setIfInBounds_toArray, List.set_cons_zero, List.set_cons_succ, List.nil_append, List.cons_append])
                      iterate 1
                        refine Free.E.q (by rfl) ?_
                        apply Exists.intro
                        refine ⟨fun u w' hc hb => ?_, ?_⟩
                        go_simp
                        (try go_ints); (try simp only [Ob.ite_imx, Ob.ite_imn]); first | exact rfl | (go_simp; exact rfl) | (simp only [↓IntWalk.iteOmega]; (try go_simp); exact rfl)
                        simp only [Act.put, List.setIfInBounds_toArray, List.set_cons_zero, List.set_cons_succ, List.nil_append, List.cons_append]
                      refine Free.E.nil (fun u w2 S hF => ?_)
                      have hb2 := hF.below
                      clear hF
                      have hc2 := (Free.cells_of hb2).1
                      have hf2 := (Free.cells_of hb2).2
                      have hz2 := hb2.size
                      try simp only [World.size_alloc, World.size_setCell, World.size_drew] at hz2
                      (try (have : w.heap.size < w2.heap.size := (by omega)))
                      (try (have : w.heap.size < w2.heap.size + 1 := (by omega)))
                      (try (have : w.heap.size < w2.heap.size + 1 + 1 := (by omega)))
                      (try (have : w.heap.size + 1 < w2.heap.size := (by omega)))
                      (try (have : w.heap.size + 1 < w2.heap.size + 1 := (by omega)))
                      (try (have : w.heap.size + 1 < w2.heap.size + 1 + 1 := (by omega)))
                      (try (have : w.heap.size + 1 + 1 < w2.heap.size := (by omega)))
                      (try (have : w.heap.size + 1 + 1 < w2.heap.size + 1 := (by omega)))
                      (try (have : w.heap.size + 1 + 1 < w2.heap.size + 1 + 1 := (by omega)))
                      (try (have : w.heap.size + 1 + 1 + 1 < w2.heap.size := (by omega)))
                      (try (have : w.heap.size + 1 + 1 + 1 < w2.heap.size + 1 := (by omega)))
                      (try (have : w.heap.size + 1 + 1 + 1 < w2.heap.size + 1 + 1 := (by omega)))
                      (try (have : wr.heap.size < w2.heap.size := (by omega)))
                      (try (have : wr.heap.size < w2.heap.size + 1 := (by omega)))
                      (try (have : wr.heap.size < w2.heap.size + 1 + 1 := (by omega)))
                      (try (have : wr.heap.size + 1 < w2.heap.size := (by omega)))
                      (try (have : wr.heap.size + 1 < w2.heap.size + 1 := (by omega)))
                      (try (have : wr.heap.size + 1 < w2.heap.size + 1 + 1 := (by omega)))
                      (try (have : wr.heap.size + 1 + 1 < w2.heap.size := (by omega)))
                      (try (have : wr.heap.size + 1 + 1 < w2.heap.size + 1 := (by omega)))
                      (try (have : wr.heap.size + 1 + 1 < w2.heap.size + 1 + 1 := (by omega)))
                      (try (have : wr.heap.size + 1 + 1 + 1 < w2.heap.size := (by omega)))
                      (try (have : wr.heap.size + 1 + 1 + 1 < w2.heap.size + 1 := (by omega)))
                      (try (have : wr.heap.size + 1 + 1 + 1 < w2.heap.size + 1 + 1 := (by omega)))
                      (try (have : b < w2.heap.size := (by omega)))
                      (try (have : b < w2.heap.size + 1 := (by omega)))
                      (try (have : b < w2.heap.size + 1 + 1 := (by omega)))
                      simp only [List.drop_succ_cons, List.drop_zero, List.drop_nil]
                      go_wp2
                      refine Free.wp_region 9 #[0, 1, 0, 4, 12, 28, 60, 127, 255] (by kernel_rfl) (by kernel_rfl) ?_
                      simp only [List.take_succ_cons, List.take_zero]
                      iterate 9
                        refine Free.E.q (by rfl) ?_
                        apply Exists.intro
                        refine ⟨fun u w' hc hb => ?_, ?_⟩
                        go_simp
                        (try go_ints); (try simp only [Ob.ite_imx, Ob.ite_imn]); first | exact rfl | (go_simp; exact rfl) | (simp only [↓IntWalk.iteOmega]; (try go_simp); exact rfl)
                        simp only [Act.put, List.setIfInBounds_toArray, List.set_cons_zero, List.set_cons_succ, List.nil_append, List.cons_append]
                      refine Free.E.nil (fun u w3 S hF => ?_)
                      have hb3 := hF.below
                      clear hF
                      have hc3 := (Free.cells_of hb3).1
                      have hf3 := (Free.cells_of hb3).2
                      have hz3 := hb3.size
                      try simp only [World.size_alloc, World.size_setCell, World.size_drew] at hz3
                      (try (have : w.heap.size < w3.heap.size := (by omega)))
                      (try (have : w.heap.size < w3.heap.size + 1 := (by omega)))
                      (try (have : w.heap.size < w3.heap.size + 1 + 1 := (by omega)))
                      (try (have : w.heap.size + 1 < w3.heap.size := (by omega)))
                      (try (have : w.heap.size + 1 < w3.heap.size + 1 := (by omega)))
                      (try (have : w.heap.size + 1 < w3.heap.size + 1 + 1 := (by omega)))
                      (try (have : w.heap.size + 1 + 1 < w3.heap.size := (by omega)))
                      (try (have : w.heap.size + 1 + 1 < w3.heap.size + 1 := (by omega)))
                      (try (have : w.heap.size + 1 + 1 < w3.heap.size + 1 + 1 := (by omega)))
                      (try (have : w.heap.size + 1 + 1 + 1 < w3.heap.size := (by omega)))
                      (try (have : w.heap.size + 1 + 1 + 1 < w3.heap.size + 1 := (by omega)))
                      (try (have : w.heap.size + 1 + 1 + 1 < w3.heap.size + 1 + 1 := (by omega)))
                      (try (have : wr.heap.size < w3.heap.size := (by omega)))
                      (try (have : wr.heap.size < w3.heap.size + 1 := (by omega)))
                      (try (have : wr.heap.size < w3.heap.size + 1 + 1 := (by omega)))
                      (try (have : wr.heap.size + 1 < w3.heap.size := (by omega)))
                      (try (have : wr.heap.size + 1 < w3.heap.size + 1 := (by omega)))
                      (try (have : wr.heap.size + 1 < w3.heap.size + 1 + 1 := (by omega)))
                      (try (have : wr.heap.size + 1 + 1 < w3.heap.size := (by omega)))
                      (try (have : wr.heap.size + 1 + 1 < w3.heap.size + 1 := (by omega)))
                      (try (have : wr.heap.size + 1 + 1 < w3.heap.size + 1 + 1 := (by omega)))
                      (try (have : wr.heap.size + 1 + 1 + 1 < w3.heap.size := (by omega)))
                      (try (have : wr.heap.size + 1 + 1 + 1 < w3.heap.size + 1 := (by omega)))
                      (try (have : wr.heap.size + 1 + 1 + 1 < w3.heap.size + 1 + 1 := (by omega)))
                      (try (have : b < w3.heap.size := (by omega)))
                      (try (have : b < w3.heap.size + 1 := (by omega)))
                      (try (have : b < w3.heap.size + 1 + 1 := (by omega)))
                      simp only [List.drop_succ_cons, List.drop_zero, List.drop_nil]
                      go_wp2
                      first | (go_ret2; exact HR.out _ (by repeat' first | with_reducible exact Below.refl _ _ | with_reducible assumption | with_reducible refine Free.Grow.alloc ?_ _ | with_reducible refine Free.Grow.setCell ?_ (by first | omega | (simp; done) | (simp; omega)) _ | with_reducible refine Free.Grow.drew ?_ | with_reducible refine Free.Grow.trans ?_ (by assumption))) | exact HR.out _ (by repeat' first | with_reducible exact Below.refl _ _ | with_reducible assumption | with_reducible refine Free.Grow.alloc ?_ _ | with_reducible refine Free.Grow.setCell ?_ (by first | omega | (simp; done) | (simp; omega)) _ | with_reducible refine Free.Grow.drew ?_ | with_reducible refine Free.Grow.trans ?_ (by assumption))
                    · have HZ : Hid (firstE [stE (at_ l k), tickE l k (at_ l k).t] = 0) := by unfold Hid; rw [HCMP.out]; unfold tickE; rw [if_neg hk0, if_neg hle, if_neg hgt]
                      go_wp2_with (go_at_call 11; refine (rCheckState_any _ _).mono ?_; rintro e w1 ⟨rfl, hb1⟩; have hc1 := (Free.cells_of hb1).1; have hf1 := (Free.cells_of hb1).2; have hz1 := hb1.size; (try simp only [World.size_alloc, World.size_setCell, World.size_drew] at hz1); (try (have : w.heap.size < w1.heap.size := (by omega))); (try (have : w.heap.size < w1.heap.size + 1 := (by omega))); (try (have : w.heap.size < w1.heap.size + 1 + 1 := (by omega))); (try (have : w.heap.size + 1 < w1.heap.size := (by omega))); (try (have : w.heap.size + 1 < w1.heap.size + 1 := (by omega))); (try (have : w.heap.size + 1 < w1.heap.size + 1 + 1 := (by omega))); (try (have : w.heap.size + 1 + 1 < w1.heap.size := (by omega))); (try (have : w.heap.size + 1 + 1 < w1.heap.size + 1 := (by omega))); (try (have : w.heap.size + 1 + 1 < w1.heap.size + 1 + 1 := (by omega))); (try (have : w.heap.size + 1 + 1 + 1 < w1.heap.size := (by omega))); (try (have : w.heap.size + 1 + 1 + 1 < w1.heap.size + 1 := (by omega))); (try (have : w.heap.size + 1 + 1 + 1 < w1.heap.size + 1 + 1 := (by omega))); (try (have : wr.heap.size < w1.heap.size := (by omega))); (try (have : wr.heap.size < w1.heap.size + 1 := (by omega))); (try (have : wr.heap.size < w1.heap.size + 1 + 1 := (by omega))); (try (have : wr.heap.size + 1 < w1.heap.size := (by omega))); (try (have : wr.heap.size + 1 < w1.heap.size + 1 := (by omega))); (try (have : wr.heap.size + 1 < w1.heap.size + 1 + 1 := (by omega))); (try (have : wr.heap.size + 1 + 1 < w1.heap.size := (by omega))); (try (have : wr.heap.size + 1 + 1 < w1.heap.size + 1 := (by omega))); (try (have : wr.heap.size + 1 + 1 < w1.heap.size + 1 + 1 := (by omega))); (try (have : wr.heap.size + 1 + 1 + 1 < w1.heap.size := (by omega))); (try (have : wr.heap.size + 1 + 1 + 1 < w1.heap.size + 1 := (by omega))); (try (have : wr.heap.size + 1 + 1 + 1 < w1.heap.size + 1 + 1 := (by omega))); (try (have : b < w1.heap.size := (by omega))); (try (have : b < w1.heap.size + 1 := (by omega))); (try (have : b < w1.heap.size + 1 + 1 := (by omega))))
                      refine Free.wp_region 14 #[0, 1, 3, 7, 15, 7, 39, 7, 135, 487, 999, 2023, 4095, 8191] (by kernel_rfl) (by kernel_rfl) ?_
                      simp only [List.take_succ_cons, List.take_zero]
                      iterate 3
                        refine Free.E.q (by rfl) ?_
                        apply Exists.intro
                        refine ⟨fun u w' hc hb => ?_, ?_⟩
                        go_simp
                        (try go_ints); (try simp only [Ob.ite_imx, Ob.ite_imn]); first | exact rfl | (go_simp; exact rfl) | (simp only [↓IntWalk.iteOmega]; (try go_simp); exact rfl)
                        simp only [Act.put, List.setIfInBounds_toArray, List.set_cons_zero, List.set_cons_succ, List.nil_append, List.cons_append]
                      iterate 10
                        first
                          | (refine Free.E.no ?_ ?_
                             (intro _; rfl)
                             simp only [Act.put, List.setIfInBounds_toArray, List.set_cons_zero, List.set_cons_succ, List.nil_append, List.cons_append])
                          | (refine Free.E.qy ?_ ?_
                             (intro _; rfl)
                             apply Exists.intro
                             refine ⟨fun u w' hc hb => ?_, ?_⟩
                             go_simp
                             (try go_ints); (try simp only [Ob.ite_imx, Ob.ite_imn]); first | exact rfl | (go_simp; exact rfl) | (simp only [↓IntWalk.iteOmega]; (try go_simp); exact rfl)
                             simp only [Act.put, List.setIfInBounds_toArray, List.set_cons_zero, List.set_cons_succ, List.nil_append, List.cons_append])
                      iterate 1
                        refine Free.E.q (by rfl) ?_
                        apply Exists.intro
                        refine ⟨fun u w' hc hb => ?_, ?_⟩
                        go_simp
                        (try go_ints); (try simp only [Ob.ite_imx, Ob.ite_imn]); first | exact rfl | (go_simp; exact rfl) | (simp only [↓IntWalk.iteOmega]; (try go_simp); exact rfl)
                        simp only [Act.put, List.setIfInBounds_toArray, List.set_cons_zero, List.set_cons_succ, List.nil_append, List.cons_append]
                      refine Free.E.nil (fun u w2 S hF => ?_)
                      have hb2 := hF.below
                      clear hF
                      have hc2 := (Free.cells_of hb2).1
                      have hf2 := (Free.cells_of hb2).2
                      have hz2 := hb2.size
                      try simp only [World.size_alloc, World.size_setCell, World.size_drew] at hz2
                      (try (have : w.heap.size < w2.heap.size := (by omega)))
                      (try (have : w.heap.size < w2.heap.size + 1 := (by omega)))
                      (try (have : w.heap.size < w2.heap.size + 1 + 1 := (by omega)))
                      (try (have : w.heap.size + 1 < w2.heap.size := (by omega)))
                      (try (have : w.heap.size + 1 < w2.heap.size + 1 := (by omega)))
                      (try (have : w.heap.size + 1 < w2.heap.size + 1 + 1 := (by omega)))
                      (try (have : w.heap.size + 1 + 1 < w2.heap.size := (by omega)))
                      (try (have : w.heap.size + 1 + 1 < w2.heap.size + 1 := (by omega)))
                      (try (have : w.heap.size + 1 + 1 < w2.heap.size + 1 + 1 := (by omega)))
                      (try (have : w.heap.size + 1 + 1 + 1 < w2.heap.size := (by omega)))
                      (try (have : w.heap.size + 1 + 1 + 1 < w2.heap.size + 1 := (by omega)))
                      (try (have : w.heap.size + 1 + 1 + 1 < w2.heap.size + 1 + 1 := (by omega)))
                      (try (have : wr.heap.size < w2.heap.size := (by omega)))
                      (try (have : wr.heap.size < w2.heap.size + 1 := (by omega)))
                      (try (have : wr.heap.size < w2.heap.size + 1 + 1 := (by omega)))
                      (try (have : wr.heap.size + 1 < w2.heap.size := (by omega)))
                      (try (have : wr.heap.size + 1 < w2.heap.size + 1 := (by omega)))
                      (try (have : wr.heap.size + 1 < w2.heap.size + 1 + 1 := (by omega)))
                      (try (have : wr.heap.size + 1 + 1 < w2.heap.size := (by omega)))
                      (try (have : wr.heap.size + 1 + 1 < w2.heap.size + 1 := (by omega)))
                      (try (have : wr.heap.size + 1 + 1 < w2.heap.size + 1 + 1 := (by omega)))
                      (try (have : wr.heap.size + 1 + 1 + 1 < w2.heap.size := (by omega)))
                      (try (have : wr.heap.size + 1 + 1 + 1 < w2.heap.size + 1 := (by omega)))
                      (try (have : wr.heap.size + 1 + 1 + 1 < w2.heap.size + 1 + 1 := (by omega)))
                      (try (have : b < w2.heap.size := (by omega)))
                      (try (have : b < w2.heap.size + 1 := (by omega)))
                      (try (have : b < w2.heap.size + 1 + 1 := (by omega)))
                      simp only [List.drop_succ_cons, List.drop_zero, List.drop_nil]
                      go_wp2
                      refine Free.wp_region 9 #[0, 1, 0, 4, 12, 28, 60, 127, 255] (by kernel_rfl) (by kernel_rfl) ?_
                      simp only [List.take_succ_cons, List.take_zero]
                      iterate 9
                        refine Free.E.q (by rfl) ?_
                        apply Exists.intro
                        refine ⟨fun u w' hc hb => ?_, ?_⟩
                        go_simp
                        (try go_ints); (try simp only [Ob.ite_imx, Ob.ite_imn]); first | exact rfl | (go_simp; exact rfl) | (simp only [↓IntWalk.iteOmega]; (try go_simp); exact rfl)
                        simp only [Act.put, List.setIfInBounds_toArray, List.set_cons_zero, List.set_cons_succ, List.nil_append, List.cons_append]
                      refine Free.E.nil (fun u w3 S hF => ?_)
                      have hb3 := hF.below
                      clear hF
                      have hc3 := (Free.cells_of hb3).1
                      have hf3 := (Free.cells_of hb3).2
                      have hz3 := hb3.size
                      try simp only [World.size_alloc, World.size_setCell, World.size_drew] at hz3
                      (try (have : w.heap.size < w3.heap.size := (by omega)))
                      (try (have : w.heap.size < w3.heap.size + 1 := (by omega)))
                      (try (have : w.heap.size < w3.heap.size + 1 + 1 := (by omega)))
                      (try (have : w.heap.size + 1 < w3.heap.size := (by omega)))
                      (try (have : w.heap.size + 1 < w3.heap.size + 1 := (by omega)))
                      (try (have : w.heap.size + 1 < w3.heap.size + 1 + 1 := (by omega)))
                      (try (have : w.heap.size + 1 + 1 < w3.heap.size := (by omega)))
                      (try (have : w.heap.size + 1 + 1 < w3.heap.size + 1 := (by omega)))
                      (try (have : w.heap.size + 1 + 1 < w3.heap.size + 1 + 1 := (by omega)))
                      (try (have : w.heap.size + 1 + 1 + 1 < w3.heap.size := (by omega)))
                      (try (have : w.heap.size + 1 + 1 + 1 < w3.heap.size + 1 := (by omega)))
                      (try (have : w.heap.size + 1 + 1 + 1 < w3.heap.size + 1 + 1 := (by omega)))
                      (try (have : wr.heap.size < w3.heap.size := (by omega)))
                      (try (have : wr.heap.size < w3.heap.size + 1 := (by omega)))
                      (try (have : wr.heap.size < w3.heap.size + 1 + 1 := (by omega)))
                      (try (have : wr.heap.size + 1 < w3.heap.size := (by omega)))
                      (try (have : wr.heap.size + 1 < w3.heap.size + 1 := (by omega)))
                      (try (have : wr.heap.size + 1 < w3.heap.size + 1 + 1 := (by omega)))
                      (try (have : wr.heap.size + 1 + 1 < w3.heap.size := (by omega)))
                      (try (have : wr.heap.size + 1 + 1 < w3.heap.size + 1 := (by omega)))
                      (try (have : wr.heap.size + 1 + 1 < w3.heap.size + 1 + 1 := (by omega)))
                      (try (have : wr.heap.size + 1 + 1 + 1 < w3.heap.size := (by omega)))
                      (try (have : wr.heap.size + 1 + 1 + 1 < w3.heap.size + 1 := (by omega)))
                      (try (have : wr.heap.size + 1 + 1 + 1 < w3.heap.size + 1 + 1 := (by omega)))
                      (try (have : b < w3.heap.size := (by omega)))
                      (try (have : b < w3.heap.size + 1 := (by omega)))
                      (try (have : b < w3.heap.size + 1 + 1 := (by omega)))
                      simp only [List.drop_succ_cons, List.drop_zero, List.drop_nil]
                      go_wp2
                      go_roundw
                      case measure => simp [intOf]; omega
                      case rel => exact ⟨k + 1, by omega, by go_num, HSC.out.trans (scan_step hlt HZ.out), HPR.out.succ HZ.out, (by rw [← World.size_alloc (w := w) (o := .cells #[.string nm, .int .i64 bd, .slice (some ⟨b, off, none⟩) l.length cap] 37)]; clear hbg; repeat' first | with_reducible exact Below.refl _ _ | with_reducible assumption | with_reducible refine Free.Grow.alloc ?_ _ | with_reducible refine Free.Grow.setCell ?_ (by first | omega | (simp; done) | (simp; omega)) _ | with_reducible refine Free.Grow.drew ?_ | with_reducible refine Free.Grow.trans ?_ (by assumption))⟩
              · have he2 : (stE s != 0) = true := by simpa using he
                have HR := Lib.hid (HQ.out k (stE s) (by rw [HO.out, HSC.out, scan_stop hlt (by rw [HSs.out, first_two he]; exact he), HSs.out, first_two he]))
                clear he HQ
                go_wp2_with (go_at_call 11; refine (rCheckState_any _ _).mono ?_; rintro e w1 ⟨rfl, hb1⟩; have hc1 := (Free.cells_of hb1).1; have hf1 := (Free.cells_of hb1).2; have hz1 := hb1.size; (try simp only [World.size_alloc, World.size_setCell, World.size_drew] at hz1); (try (have : w.heap.size < w1.heap.size := (by omega))); (try (have : w.heap.size < w1.heap.size + 1 := (by omega))); (try (have : w.heap.size < w1.heap.size + 1 + 1 := (by omega))); (try (have : w.heap.size + 1 < w1.heap.size := (by omega))); (try (have : w.heap.size + 1 < w1.heap.size + 1 := (by omega))); (try (have : w.heap.size + 1 < w1.heap.size + 1 + 1 := (by omega))); (try (have : w.heap.size + 1 + 1 < w1.heap.size := (by omega))); (try (have : w.heap.size + 1 + 1 < w1.heap.size + 1 := (by omega))); (try (have : w.heap.size + 1 + 1 < w1.heap.size + 1 + 1 := (by omega))); (try (have : w.heap.size + 1 + 1 + 1 < w1.heap.size := (by omega))); (try (have : w.heap.size + 1 + 1 + 1 < w1.heap.size + 1 := (by omega))); (try (have : w.heap.size + 1 + 1 + 1 < w1.heap.size + 1 + 1 := (by omega))); (try (have : wr.heap.size < w1.heap.size := (by omega))); (try (have : wr.heap.size < w1.heap.size + 1 := (by omega))); (try (have : wr.heap.size < w1.heap.size + 1 + 1 := (by omega))); (try (have : wr.heap.size + 1 < w1.heap.size := (by omega))); (try (have : wr.heap.size + 1 < w1.heap.size + 1 := (by omega))); (try (have : wr.heap.size + 1 < w1.heap.size + 1 + 1 := (by omega))); (try (have : wr.heap.size + 1 + 1 < w1.heap.size := (by omega))); (try (have : wr.heap.size + 1 + 1 < w1.heap.size + 1 := (by omega))); (try (have : wr.heap.size + 1 + 1 < w1.heap.size + 1 + 1 := (by omega))); (try (have : wr.heap.size + 1 + 1 + 1 < w1.heap.size := (by omega))); (try (have : wr.heap.size + 1 + 1 + 1 < w1.heap.size + 1 := (by omega))); (try (have : wr.heap.size + 1 + 1 + 1 < w1.heap.size + 1 + 1 := (by omega))); (try (have : b < w1.heap.size := (by omega))); (try (have : b < w1.heap.size + 1 := (by omega))); (try (have : b < w1.heap.size + 1 + 1 := (by omega))))
                first | (go_ret2; exact HR.out _ (by repeat' first | with_reducible exact Below.refl _ _ | with_reducible assumption | with_reducible refine Free.Grow.alloc ?_ _ | with_reducible refine Free.Grow.setCell ?_ (by first | omega | (simp; done) | (simp; omega)) _ | with_reducible refine Free.Grow.drew ?_ | with_reducible refine Free.Grow.trans ?_ (by assumption))) | exact HR.out _ (by repeat' first | with_reducible exact Below.refl _ _ | with_reducible assumption | with_reducible refine Free.Grow.alloc ?_ _ | with_reducible refine Free.Grow.setCell ?_ (by first | omega | (simp; done) | (simp; omega)) _ | with_reducible refine Free.Grow.drew ?_ | with_reducible refine Free.Grow.trans ?_ (by assumption))
            · have HR := Lib.hid (HQ.out 0 0 (by rw [HO.out, HSC.out, show l.length - k = 0 by omega]; rfl))
              go_wp2
              first | (go_ret2; exact HR.out _ (by repeat' first | with_reducible exact Below.refl _ _ | with_reducible assumption | with_reducible refine Free.Grow.alloc ?_ _ | with_reducible refine Free.Grow.setCell ?_ (by first | omega | (simp; done) | (simp; omega)) _ | with_reducible refine Free.Grow.drew ?_ | with_reducible refine Free.Grow.trans ?_ (by assumption))) | exact HR.out _ (by repeat' first | with_reducible exact Below.refl _ _ | with_reducible assumption | with_reducible refine Free.Grow.alloc ?_ _ | with_reducible refine Free.Grow.setCell ?_ (by first | omega | (simp; done) | (simp; omega)) _ | with_reducible refine Free.Grow.drew ?_ | with_reducible refine Free.Grow.trans ?_ (by assumption))
end Go.Proofs.YthhhkjbhhjcjoaaGreatDoor
