/- Chapter 2: CheckOrbit and what stands on it, in the program. -/
import Derived.Test.YthhhkjbhhjcjoaaGreatDoor02c
set_option linter.unusedSimpArgs false
set_option linter.unusedVariables false
namespace Go.Proofs.YthhhkjbhhjcjoaaGreatDoor
open Go.RowKit Go.Ob

/-- A slice of states. -/
structure SlSts (w : World) (a : Option Addr) (l : List St) : Prop where
  wf : ∀ k, k < l.length → -9223372036854775808 ≤ (at_ l k).t ∧ (at_ l k).t ≤ 9223372036854775807
  mem : l ≠ [] → ∃ b off, a = some ⟨b, off, none⟩ ∧ b < w.heap.size ∧ HasSts w b off l

theorem SlSts.below {w w' : World} {a : Option Addr} {l : List St} (h : SlSts w a l) (hb : Below w.heap.size w w') : SlSts w' a l :=
  ⟨h.wf, fun hl => let ⟨b, off, h1, h2, h3⟩ := h.mem hl; ⟨b, off, h1, Nat.lt_of_lt_of_le h2 hb.size, h3.below hb h2⟩⟩

abbrev obV (nm : ByteArray) (bd : Int) (a : Option Addr) (n cap : Nat) : Value := .agg #[.string nm, .int .i64 bd, .slice a n cap]

set_option maxRecDepth 100000 in
set_option maxHeartbeats 4000000 in
theorem CheckOrbit_any (nm : ByteArray) (bd : Int) (a : Option Addr) (cap : Nat) (l : List St) (w : World) (hnm : nm.size ≤ 1000) (hS : SlSts w a l) (hcap : l.length ≤ cap) (hl : (l.length : Int) ≤ 9223372036854775807) :
    Calls Tryz.prog 47 #[obV nm bd a l.length cap] w fun e w' => e = .returned (.tuple #[.int .i64 (orbE nm.data.toList bd l).1, .int .i64 (orbE nm.data.toList bd l).2]) ∧ Below w.heap.size w w' := by
  have hr : ∀ x y, orbE nm.data.toList bd l = (x, y) → Ending.returned (.tuple #[.int .i64 x, .int .i64 y]) = .returned (.tuple #[.int .i64 (orbE nm.data.toList bd l).1, .int .i64 (orbE nm.data.toList bd l).2]) := fun x y h => by rw [h]
  cases hn : nameB nm.data.toList with
  | false =>
    have H := Lib.hid (hr 0 4 (by simp [orbE, hn]))
    clear hr
    go_enter Tryz.func47, Tryz.ntmps47
    go_wp2_with (go_at_call 90; refine (isName_any _ _ hnm).mono ?_; rintro e w1 ⟨rfl, hb1⟩; have hc1 := (Free.cells_of hb1).1; have hf1 := (Free.cells_of hb1).2; have hz1 := hb1.size; (try simp only [World.size_alloc, World.size_setCell, World.size_drew] at hz1); (try (have : w.heap.size < w1.heap.size := (by omega))); (try (have : w.heap.size < w1.heap.size + 1 := (by omega))); (try (have : w.heap.size < w1.heap.size + 1 + 1 := (by omega))); (try (have : w.heap.size + 1 < w1.heap.size := (by omega))); (try (have : w.heap.size + 1 < w1.heap.size + 1 := (by omega))); (try (have : w.heap.size + 1 < w1.heap.size + 1 + 1 := (by omega))); (try (have : w.heap.size + 1 + 1 < w1.heap.size := (by omega))); (try (have : w.heap.size + 1 + 1 < w1.heap.size + 1 := (by omega))); (try (have : w.heap.size + 1 + 1 < w1.heap.size + 1 + 1 := (by omega))); (try (have : w.heap.size + 1 + 1 + 1 < w1.heap.size := (by omega))); (try (have : w.heap.size + 1 + 1 + 1 < w1.heap.size + 1 := (by omega))); (try (have : w.heap.size + 1 + 1 + 1 < w1.heap.size + 1 + 1 := (by omega))))
    go_ret2
    exact ⟨H.out, by repeat' first | with_reducible exact Below.refl _ _ | with_reducible assumption | with_reducible refine Free.Grow.alloc ?_ _ | with_reducible refine Free.Grow.setCell ?_ (by first | omega | (simp; done) | (simp; omega)) _ | with_reducible refine Free.Grow.drew ?_ | with_reducible refine Free.Grow.trans ?_ (by assumption)⟩
  | true =>
    cases hbd : rngB bd 0 100000 with
    | false =>
      have H := Lib.hid (hr 0 2 (by have := rngB_false.1 hbd; simp only [orbE, hn]; rw [if_neg (by decide), if_pos (by omega)]))
      clear hr
      go_enter Tryz.func47, Tryz.ntmps47
      go_wp2_with (first | (go_at_call 90; refine (isName_any _ _ hnm).mono ?_; rintro e w1 ⟨rfl, hb1⟩; have hc1 := (Free.cells_of hb1).1; have hf1 := (Free.cells_of hb1).2; have hz1 := hb1.size; (try simp only [World.size_alloc, World.size_setCell, World.size_drew] at hz1); (try (have : w.heap.size < w1.heap.size := (by omega))); (try (have : w.heap.size < w1.heap.size + 1 := (by omega))); (try (have : w.heap.size < w1.heap.size + 1 + 1 := (by omega))); (try (have : w.heap.size + 1 < w1.heap.size := (by omega))); (try (have : w.heap.size + 1 < w1.heap.size + 1 := (by omega))); (try (have : w.heap.size + 1 < w1.heap.size + 1 + 1 := (by omega))); (try (have : w.heap.size + 1 + 1 < w1.heap.size := (by omega))); (try (have : w.heap.size + 1 + 1 < w1.heap.size + 1 := (by omega))); (try (have : w.heap.size + 1 + 1 < w1.heap.size + 1 + 1 := (by omega))); (try (have : w.heap.size + 1 + 1 + 1 < w1.heap.size := (by omega))); (try (have : w.heap.size + 1 + 1 + 1 < w1.heap.size + 1 := (by omega))); (try (have : w.heap.size + 1 + 1 + 1 < w1.heap.size + 1 + 1 := (by omega)))) | (go_at_call 59; refine (within_any _ _ _ _).mono ?_; rintro e w' ⟨rfl, rfl⟩))
      go_ret2
      exact ⟨H.out, by repeat' first | with_reducible exact Below.refl _ _ | with_reducible assumption | with_reducible refine Free.Grow.alloc ?_ _ | with_reducible refine Free.Grow.setCell ?_ (by first | omega | (simp; done) | (simp; omega)) _ | with_reducible refine Free.Grow.drew ?_ | with_reducible refine Free.Grow.trans ?_ (by assumption)⟩
    | true =>
      have hbd2 := rngB_true.1 hbd
      by_cases h2 : l.length < 2
      · have H := Lib.hid (hr 0 10 (by simp only [orbE, hn]; rw [if_neg (by decide), if_neg (by omega), if_pos h2]))
        clear hr
        have h2' : (l.length : Int) < 2 := by omega
        go_enter Tryz.func47, Tryz.ntmps47
        go_wp2_with (first | (go_at_call 90; refine (isName_any _ _ hnm).mono ?_; rintro e w1 ⟨rfl, hb1⟩; have hc1 := (Free.cells_of hb1).1; have hf1 := (Free.cells_of hb1).2; have hz1 := hb1.size; (try simp only [World.size_alloc, World.size_setCell, World.size_drew] at hz1); (try (have : w.heap.size < w1.heap.size := (by omega))); (try (have : w.heap.size < w1.heap.size + 1 := (by omega))); (try (have : w.heap.size < w1.heap.size + 1 + 1 := (by omega))); (try (have : w.heap.size + 1 < w1.heap.size := (by omega))); (try (have : w.heap.size + 1 < w1.heap.size + 1 := (by omega))); (try (have : w.heap.size + 1 < w1.heap.size + 1 + 1 := (by omega))); (try (have : w.heap.size + 1 + 1 < w1.heap.size := (by omega))); (try (have : w.heap.size + 1 + 1 < w1.heap.size + 1 := (by omega))); (try (have : w.heap.size + 1 + 1 < w1.heap.size + 1 + 1 := (by omega))); (try (have : w.heap.size + 1 + 1 + 1 < w1.heap.size := (by omega))); (try (have : w.heap.size + 1 + 1 + 1 < w1.heap.size + 1 := (by omega))); (try (have : w.heap.size + 1 + 1 + 1 < w1.heap.size + 1 + 1 := (by omega)))) | (go_at_call 59; refine (within_any _ _ _ _).mono ?_; rintro e w' ⟨rfl, rfl⟩))
        go_ret2
        exact ⟨H.out, by repeat' first | with_reducible exact Below.refl _ _ | with_reducible assumption | with_reducible refine Free.Grow.alloc ?_ _ | with_reducible refine Free.Grow.setCell ?_ (by first | omega | (simp; done) | (simp; omega)) _ | with_reducible refine Free.Grow.drew ?_ | with_reducible refine Free.Grow.trans ?_ (by assumption)⟩
      · by_cases h40 : 40 < l.length
        · have H := Lib.hid (hr 0 8 (by simp only [orbE, hn]; rw [if_neg (by decide), if_neg (by omega), if_neg h2, if_pos h40]))
          clear hr
          have h2' : (2 : Int) ≤ l.length := by omega
          have h40' : (40 : Int) < l.length := by omega
          go_enter Tryz.func47, Tryz.ntmps47
          go_wp2_with (first | (go_at_call 90; refine (isName_any _ _ hnm).mono ?_; rintro e w1 ⟨rfl, hb1⟩; have hc1 := (Free.cells_of hb1).1; have hf1 := (Free.cells_of hb1).2; have hz1 := hb1.size; (try simp only [World.size_alloc, World.size_setCell, World.size_drew] at hz1); (try (have : w.heap.size < w1.heap.size := (by omega))); (try (have : w.heap.size < w1.heap.size + 1 := (by omega))); (try (have : w.heap.size < w1.heap.size + 1 + 1 := (by omega))); (try (have : w.heap.size + 1 < w1.heap.size := (by omega))); (try (have : w.heap.size + 1 < w1.heap.size + 1 := (by omega))); (try (have : w.heap.size + 1 < w1.heap.size + 1 + 1 := (by omega))); (try (have : w.heap.size + 1 + 1 < w1.heap.size := (by omega))); (try (have : w.heap.size + 1 + 1 < w1.heap.size + 1 := (by omega))); (try (have : w.heap.size + 1 + 1 < w1.heap.size + 1 + 1 := (by omega))); (try (have : w.heap.size + 1 + 1 + 1 < w1.heap.size := (by omega))); (try (have : w.heap.size + 1 + 1 + 1 < w1.heap.size + 1 := (by omega))); (try (have : w.heap.size + 1 + 1 + 1 < w1.heap.size + 1 + 1 := (by omega)))) | (go_at_call 59; refine (within_any _ _ _ _).mono ?_; rintro e w' ⟨rfl, rfl⟩))
          go_ret2
          exact ⟨H.out, by repeat' first | with_reducible exact Below.refl _ _ | with_reducible assumption | with_reducible refine Free.Grow.alloc ?_ _ | with_reducible refine Free.Grow.setCell ?_ (by first | omega | (simp; done) | (simp; omega)) _ | with_reducible refine Free.Grow.drew ?_ | with_reducible refine Free.Grow.trans ?_ (by assumption)⟩
        · have h2' : (2 : Int) ≤ l.length := by omega
          have h40' : (l.length : Int) ≤ 40 := by omega
          obtain ⟨b, off, rfl, hbw, hmem⟩ := hS.mem (by intro e; rw [e] at h2; simp at h2)
          have hwf := hS.wf
          have HO : Hid (orbE nm.data.toList bd l = scanE l l.length 0) := by unfold Hid; simp only [orbE, hn]; rw [if_neg (by decide), if_neg (by omega), if_neg h2, if_neg h40]
          have HR := Lib.hid hr
          have HW := Lib.hid hwf
          clear hr hwf hS
          go_enter Tryz.func47, Tryz.ntmps47
          go_wp2_with (first | (go_at_call 90; refine (isName_any _ _ hnm).mono ?_; rintro e w1 ⟨rfl, hb1⟩; have hc1 := (Free.cells_of hb1).1; have hf1 := (Free.cells_of hb1).2; have hz1 := hb1.size; (try simp only [World.size_alloc, World.size_setCell, World.size_drew] at hz1); (try (have : w.heap.size < w1.heap.size := (by omega))); (try (have : w.heap.size < w1.heap.size + 1 := (by omega))); (try (have : w.heap.size < w1.heap.size + 1 + 1 := (by omega))); (try (have : w.heap.size + 1 < w1.heap.size := (by omega))); (try (have : w.heap.size + 1 < w1.heap.size + 1 := (by omega))); (try (have : w.heap.size + 1 < w1.heap.size + 1 + 1 := (by omega))); (try (have : w.heap.size + 1 + 1 < w1.heap.size := (by omega))); (try (have : w.heap.size + 1 + 1 < w1.heap.size + 1 := (by omega))); (try (have : w.heap.size + 1 + 1 < w1.heap.size + 1 + 1 := (by omega))); (try (have : w.heap.size + 1 + 1 + 1 < w1.heap.size := (by omega))); (try (have : w.heap.size + 1 + 1 + 1 < w1.heap.size + 1 := (by omega))); (try (have : w.heap.size + 1 + 1 + 1 < w1.heap.size + 1 + 1 := (by omega)))) | (go_at_call 59; refine (within_any _ _ _ _).mono ?_; rintro e w' ⟨rfl, rfl⟩))
          go_loopw [4, 5, 6, 30] (fun _ _ _ i wr => ∃ k : Nat, k ≤ l.length ∧ i = .int .i64 k ∧ scanE l l.length 0 = scanE l (l.length - k) k ∧ preOk l k ∧ Below w1.heap.size w1 wr) (fun _ _ _ i _ => l.length - (intOf i).toNat)
          case atStart => exact ⟨0, Nat.zero_le _, rfl, rfl, fun _ h => by omega, Below.refl _ _⟩
          case round =>
            obtain ⟨k, hk, rfl, hsc, hpre, hbr⟩ := hrel
            have hcr := (Free.cells_of hbr).1
            have hfr := (Free.cells_of hbr).2
            have hzr := hbr.size
            have : w.heap.size < w1.heap.size := (by omega); have : w.heap.size < wr.heap.size := (by omega); have : w.heap.size < wr.heap.size + 1 := (by omega); have : w.heap.size < wr.heap.size + 1 + 1 := (by omega)
            have HSC := Lib.hid hsc
            have HPR := Lib.hid hpre
            clear hsc hpre
            by_cases hlt : k < l.length
            · have hSr : Hid (HasSts wr b off l) := (hmem.below (B := w.heap.size) (w' := wr) (by repeat' first | with_reducible exact Below.refl _ _ | with_reducible assumption | with_reducible refine Free.Grow.alloc ?_ _ | with_reducible refine Free.Grow.setCell ?_ (by first | omega | (simp; done) | (simp; omega)) _ | with_reducible refine Free.Grow.drew ?_ | with_reducible refine Free.Grow.trans ?_ (by assumption)) hbw)
              obtain ⟨c1, c2, c3, c4, c5⟩ := hSr.out k hlt
              have HWk := HW.out k hlt
              have hkc : k ≤ cap := by omega
              by_cases he : firstE [stE (at_ l k), tickE l k (at_ l k).t] = 0
              · have he2 : (firstE [stE (at_ l k), tickE l k (at_ l k).t] != 0) = false := by simp [he]
                have HE := Lib.hid he
                clear he
                go_wp2
                refine Free.wp_region 9 #[0, 1, 0, 4, 0, 28, 0, 64, 255, 511, 1023, 2047] (by kernel_rfl) (by kernel_rfl) ?_
                simp only [List.take_succ_cons, List.take_zero]
                iterate 9
                  refine Free.E.q (by rfl) ?_
                  apply Exists.intro
                  refine ⟨fun u w' hc hb => ?_, ?_⟩
                  go_simp
                  (try go_ints); (try simp only [Ob.ite_imx, Ob.ite_imn]); first | exact rfl | (go_simp; exact rfl) | ((go_at_call 39; exact checkState_any _ _)) | ((go_at_call 91; exact Free.Calls.grow (checkTick_any b off _ l _ _ _ (hSr.out.below (B := wr.heap.size) (by repeat' first | with_reducible exact Below.refl _ _ | with_reducible assumption | with_reducible refine Free.Grow.alloc ?_ _ | with_reducible refine Free.Grow.setCell ?_ (by first | omega | (simp; done) | (simp; omega)) _ | with_reducible refine Free.Grow.drew ?_ | with_reducible refine Free.Grow.trans ?_ (by assumption)) (by omega)) hlt (by omega) HPR.out.first HWk.2))) | (simp only [↓IntWalk.iteOmega]; (try go_simp); exact rfl)
                  simp only [Act.put, List.setIfInBounds_toArray, List.set_cons_zero, List.set_cons_succ, List.nil_append, List.cons_append]
                refine Free.E.nil (fun u w2 S hF => ?_)
                have hb2 := hF.below
                clear hF
                have hc2 := (Free.cells_of hb2).1
                have hf2 := (Free.cells_of hb2).2
                have hz2 := hb2.size
                try simp only [World.size_alloc, World.size_setCell, World.size_drew] at hz2
                (try (have : w.heap.size < w2.heap.size := (by omega)))
                (try (have : w.heap.size < w2.heap.size + 1 := (by omega)))
                (try (have : w.heap.size < w2.heap.size + 1 + 1 := (by omega)))
                (try (have : w.heap.size + 1 < w2.heap.size := (by omega)))
                (try (have : w.heap.size + 1 < w2.heap.size + 1 := (by omega)))
                (try (have : w.heap.size + 1 < w2.heap.size + 1 + 1 := (by omega)))
                (try (have : w.heap.size + 1 + 1 < w2.heap.size := (by omega)))
                (try (have : w.heap.size + 1 + 1 < w2.heap.size + 1 := (by omega)))
                (try (have : w.heap.size + 1 + 1 < w2.heap.size + 1 + 1 := (by omega)))
                (try (have : w.heap.size + 1 + 1 + 1 < w2.heap.size := (by omega)))
                (try (have : w.heap.size + 1 + 1 + 1 < w2.heap.size + 1 := (by omega)))
                (try (have : w.heap.size + 1 + 1 + 1 < w2.heap.size + 1 + 1 := (by omega)))
                simp only [List.drop_succ_cons, List.drop_zero, List.drop_nil]
                go_wp2_with (go_at_call 63; refine (first2_any _ (stE (at_ l k)) (tickE l k (at_ l k).t) _ (by simp [go_sem]) (by simp [go_sem])).mono ?_; rintro e w' ⟨rfl, rfl⟩)
                go_roundw
                case measure => simp [intOf]; omega
                case rel => exact ⟨k + 1, by omega, by go_num, HSC.out.trans (scan_step hlt HE.out), HPR.out.succ HE.out, by repeat' first | with_reducible exact Below.refl _ _ | with_reducible assumption | with_reducible refine Free.Grow.alloc ?_ _ | with_reducible refine Free.Grow.setCell ?_ (by first | omega | (simp; done) | (simp; omega)) _ | with_reducible refine Free.Grow.drew ?_ | with_reducible refine Free.Grow.trans ?_ (by assumption)⟩
              · have he2 : (firstE [stE (at_ l k), tickE l k (at_ l k).t] != 0) = true := by simpa using he
                have HE := Lib.hid he
                clear he
                go_wp2
                refine Free.wp_region 9 #[0, 1, 0, 4, 0, 28, 0, 64, 255, 511, 1023, 2047] (by kernel_rfl) (by kernel_rfl) ?_
                simp only [List.take_succ_cons, List.take_zero]
                iterate 9
                  refine Free.E.q (by rfl) ?_
                  apply Exists.intro
                  refine ⟨fun u w' hc hb => ?_, ?_⟩
                  go_simp
                  (try go_ints); (try simp only [Ob.ite_imx, Ob.ite_imn]); first | exact rfl | (go_simp; exact rfl) | ((go_at_call 39; exact checkState_any _ _)) | ((go_at_call 91; exact Free.Calls.grow (checkTick_any b off _ l _ _ _ (hSr.out.below (B := wr.heap.size) (by repeat' first | with_reducible exact Below.refl _ _ | with_reducible assumption | with_reducible refine Free.Grow.alloc ?_ _ | with_reducible refine Free.Grow.setCell ?_ (by first | omega | (simp; done) | (simp; omega)) _ | with_reducible refine Free.Grow.drew ?_ | with_reducible refine Free.Grow.trans ?_ (by assumption)) (by omega)) hlt (by omega) HPR.out.first HWk.2))) | (simp only [↓IntWalk.iteOmega]; (try go_simp); exact rfl)
                  simp only [Act.put, List.setIfInBounds_toArray, List.set_cons_zero, List.set_cons_succ, List.nil_append, List.cons_append]
                refine Free.E.nil (fun u w2 S hF => ?_)
                have hb2 := hF.below
                clear hF
                have hc2 := (Free.cells_of hb2).1
                have hf2 := (Free.cells_of hb2).2
                have hz2 := hb2.size
                try simp only [World.size_alloc, World.size_setCell, World.size_drew] at hz2
                (try (have : w.heap.size < w2.heap.size := (by omega)))
                (try (have : w.heap.size < w2.heap.size + 1 := (by omega)))
                (try (have : w.heap.size < w2.heap.size + 1 + 1 := (by omega)))
                (try (have : w.heap.size + 1 < w2.heap.size := (by omega)))
                (try (have : w.heap.size + 1 < w2.heap.size + 1 := (by omega)))
                (try (have : w.heap.size + 1 < w2.heap.size + 1 + 1 := (by omega)))
                (try (have : w.heap.size + 1 + 1 < w2.heap.size := (by omega)))
                (try (have : w.heap.size + 1 + 1 < w2.heap.size + 1 := (by omega)))
                (try (have : w.heap.size + 1 + 1 < w2.heap.size + 1 + 1 := (by omega)))
                (try (have : w.heap.size + 1 + 1 + 1 < w2.heap.size := (by omega)))
                (try (have : w.heap.size + 1 + 1 + 1 < w2.heap.size + 1 := (by omega)))
                (try (have : w.heap.size + 1 + 1 + 1 < w2.heap.size + 1 + 1 := (by omega)))
                simp only [List.drop_succ_cons, List.drop_zero, List.drop_nil]
                go_wp2_with (go_at_call 63; refine (first2_any _ (stE (at_ l k)) (tickE l k (at_ l k).t) _ (by simp [go_sem]) (by simp [go_sem])).mono ?_; rintro e w' ⟨rfl, rfl⟩)
                go_ret2
                exact ⟨HR.out _ _ (by rw [HO.out, HSC.out, scan_stop hlt HE.out]), by repeat' first | with_reducible exact Below.refl _ _ | with_reducible assumption | with_reducible refine Free.Grow.alloc ?_ _ | with_reducible refine Free.Grow.setCell ?_ (by first | omega | (simp; done) | (simp; omega)) _ | with_reducible refine Free.Grow.drew ?_ | with_reducible refine Free.Grow.trans ?_ (by assumption)⟩
            · go_wp2
              go_ret2
              exact ⟨HR.out _ _ (by rw [HO.out, HSC.out, show l.length - k = 0 by omega]; rfl), by repeat' first | with_reducible exact Below.refl _ _ | with_reducible assumption | with_reducible refine Free.Grow.alloc ?_ _ | with_reducible refine Free.Grow.setCell ?_ (by first | omega | (simp; done) | (simp; omega)) _ | with_reducible refine Free.Grow.drew ?_ | with_reducible refine Free.Grow.trans ?_ (by assumption)⟩
end Go.Proofs.YthhhkjbhhjcjoaaGreatDoor
