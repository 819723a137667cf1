/- Chapter 2: the checks of places, states and orbits, in the program. -/
import Derived.Test.YthhhkjbhhjcjoaaGreatDoor02b
set_option linter.unusedSimpArgs false
set_option linter.unusedVariables false
namespace Go.Proofs.YthhhkjbhhjcjoaaGreatDoor
open Go.RowKit Go.Ob

theorem placeE_1 {x y z : Int} (h : bnd x (-100000000) 100000000 ≠ 0) : placeE x y z = bnd x (-100000000) 100000000 := by simp [placeE, firstE, h]
theorem placeE_2 {x y z : Int} (h : bnd x (-100000000) 100000000 = 0) (h2 : bnd y (-100000000) 100000000 ≠ 0) : placeE x y z = bnd y (-100000000) 100000000 := by simp [placeE, firstE, h, h2]
theorem placeE_3 {x y z : Int} (h : bnd x (-100000000) 100000000 = 0) (h2 : bnd y (-100000000) 100000000 = 0) : placeE x y z = bnd z (-100000000) 100000000 := by
  simp [placeE, firstE, h, h2]; intro h3; exact h3.symm
theorem bnd_or (n lo hi : Int) : bnd n lo hi = 0 ∨ bnd n lo hi = 2 := by unfold bnd; split <;> simp

set_option maxHeartbeats 1000000 in
theorem checkPlace_any (x y z : Int) (w : World) :
    Calls Tryz.prog 74 #[v3 x y z] w fun e w' => e = .returned (.int .i64 (placeE x y z)) ∧ Below w.heap.size w w' := by
  have i0 : ∀ w, (Instr.index 140 (.agg #[.int .i64 x, .int .i64 y, .int .i64 z]) (.int .i64 0)).run Tryz.prog w = .ok (.int .i64 x) w := fun _ => by kernel_rfl
  have i1 : ∀ w, (Instr.index 140 (.agg #[.int .i64 x, .int .i64 y, .int .i64 z]) (.int .i64 1)).run Tryz.prog w = .ok (.int .i64 y) w := fun _ => by kernel_rfl
  have i2 : ∀ w, (Instr.index 140 (.agg #[.int .i64 x, .int .i64 y, .int .i64 z]) (.int .i64 2)).run Tryz.prog w = .ok (.int .i64 z) w := fun _ => by kernel_rfl
  obtain ⟨bx, hbx⟩ : ∃ b : Bool, (bnd x (-100000000) 100000000 != 0) = b := ⟨_, rfl⟩
  obtain ⟨by', hby⟩ : ∃ b : Bool, (bnd y (-100000000) 100000000 != 0) = b := ⟨_, rfl⟩
  obtain ⟨bz, hbz⟩ : ∃ b : Bool, (bnd z (-100000000) 100000000 != 0) = b := ⟨_, rfl⟩
  cases bx with
  | true =>
    have H : Hid (placeE x y z = bnd x (-100000000) 100000000) := placeE_1 (by simpa using hbx)
    clear hby hbz
    go_enter Tryz.func74, Tryz.ntmps74
    go_wp2_with (first | (go_at_call 76; refine (vectorOf_any _ _ _ _).mono ?_; rintro e w1 ⟨rfl, hb1⟩; have hc1 := (Free.cells_of hb1).1; have hf1 := (Free.cells_of hb1).2; have hz1 := hb1.size; (try simp only [World.size_alloc, World.size_setCell, World.size_drew] at hz1); (try (have : w.heap.size < w1.heap.size := (by omega))); (try (have : w.heap.size < w1.heap.size + 1 := (by omega))); (try (have : w.heap.size < w1.heap.size + 1 + 1 := (by omega))); (try (have : w.heap.size + 1 < w1.heap.size := (by omega))); (try (have : w.heap.size + 1 < w1.heap.size + 1 := (by omega))); (try (have : w.heap.size + 1 < w1.heap.size + 1 + 1 := (by omega))); (try (have : w.heap.size + 1 + 1 < w1.heap.size := (by omega))); (try (have : w.heap.size + 1 + 1 < w1.heap.size + 1 := (by omega))); (try (have : w.heap.size + 1 + 1 < w1.heap.size + 1 + 1 := (by omega))); (try (have : w.heap.size + 1 + 1 + 1 < w1.heap.size := (by omega))); (try (have : w.heap.size + 1 + 1 + 1 < w1.heap.size + 1 := (by omega))); (try (have : w.heap.size + 1 + 1 + 1 < w1.heap.size + 1 + 1 := (by omega)))) | (go_at_call 81; refine (bound_any _ _ _ _).mono ?_; rintro e w' ⟨rfl, rfl⟩))
    refine wp_loop_rounds 1 ?_
    rw [rounds_succ]
    go_wp2_with (go_at_call 81; refine (bound_any _ _ _ _).mono ?_; rintro e w' ⟨rfl, rfl⟩)
    go_ret
    exact ⟨int_eq H.out.symm, by repeat' first | with_reducible exact Below.refl _ _ | with_reducible assumption | with_reducible refine Free.Grow.alloc ?_ _ | with_reducible refine Free.Grow.setCell ?_ (by first | omega | (simp; done) | (simp; omega)) _ | with_reducible refine Free.Grow.drew ?_ | with_reducible refine Free.Grow.trans ?_ (by assumption)⟩
  | false =>
    cases by' with
    | true =>
      have H : Hid (placeE x y z = bnd y (-100000000) 100000000) := placeE_2 (by simpa using hbx) (by simpa using hby)
      clear hbz
      go_enter Tryz.func74, Tryz.ntmps74
      go_wp2_with (first | (go_at_call 76; refine (vectorOf_any _ _ _ _).mono ?_; rintro e w1 ⟨rfl, hb1⟩; have hc1 := (Free.cells_of hb1).1; have hf1 := (Free.cells_of hb1).2; have hz1 := hb1.size; (try simp only [World.size_alloc, World.size_setCell, World.size_drew] at hz1); (try (have : w.heap.size < w1.heap.size := (by omega))); (try (have : w.heap.size < w1.heap.size + 1 := (by omega))); (try (have : w.heap.size < w1.heap.size + 1 + 1 := (by omega))); (try (have : w.heap.size + 1 < w1.heap.size := (by omega))); (try (have : w.heap.size + 1 < w1.heap.size + 1 := (by omega))); (try (have : w.heap.size + 1 < w1.heap.size + 1 + 1 := (by omega))); (try (have : w.heap.size + 1 + 1 < w1.heap.size := (by omega))); (try (have : w.heap.size + 1 + 1 < w1.heap.size + 1 := (by omega))); (try (have : w.heap.size + 1 + 1 < w1.heap.size + 1 + 1 := (by omega))); (try (have : w.heap.size + 1 + 1 + 1 < w1.heap.size := (by omega))); (try (have : w.heap.size + 1 + 1 + 1 < w1.heap.size + 1 := (by omega))); (try (have : w.heap.size + 1 + 1 + 1 < w1.heap.size + 1 + 1 := (by omega)))) | (go_at_call 81; refine (bound_any _ _ _ _).mono ?_; rintro e w' ⟨rfl, rfl⟩))
      refine wp_loop_rounds 2 ?_
      rw [rounds_succ]
      go_wp2_with (go_at_call 81; refine (bound_any _ _ _ _).mono ?_; rintro e w' ⟨rfl, rfl⟩)
      rw [rounds_succ]
      go_wp2_with (go_at_call 81; refine (bound_any _ _ _ _).mono ?_; rintro e w' ⟨rfl, rfl⟩)
      go_ret
      exact ⟨int_eq H.out.symm, by repeat' first | with_reducible exact Below.refl _ _ | with_reducible assumption | with_reducible refine Free.Grow.alloc ?_ _ | with_reducible refine Free.Grow.setCell ?_ (by first | omega | (simp; done) | (simp; omega)) _ | with_reducible refine Free.Grow.drew ?_ | with_reducible refine Free.Grow.trans ?_ (by assumption)⟩
    | false =>
      have H : Hid (placeE x y z = bnd z (-100000000) 100000000) := placeE_3 (by simpa using hbx) (by simpa using hby)
      cases bz with
      | true =>
        go_enter Tryz.func74, Tryz.ntmps74
        go_wp2_with (first | (go_at_call 76; refine (vectorOf_any _ _ _ _).mono ?_; rintro e w1 ⟨rfl, hb1⟩; have hc1 := (Free.cells_of hb1).1; have hf1 := (Free.cells_of hb1).2; have hz1 := hb1.size; (try simp only [World.size_alloc, World.size_setCell, World.size_drew] at hz1); (try (have : w.heap.size < w1.heap.size := (by omega))); (try (have : w.heap.size < w1.heap.size + 1 := (by omega))); (try (have : w.heap.size < w1.heap.size + 1 + 1 := (by omega))); (try (have : w.heap.size + 1 < w1.heap.size := (by omega))); (try (have : w.heap.size + 1 < w1.heap.size + 1 := (by omega))); (try (have : w.heap.size + 1 < w1.heap.size + 1 + 1 := (by omega))); (try (have : w.heap.size + 1 + 1 < w1.heap.size := (by omega))); (try (have : w.heap.size + 1 + 1 < w1.heap.size + 1 := (by omega))); (try (have : w.heap.size + 1 + 1 < w1.heap.size + 1 + 1 := (by omega))); (try (have : w.heap.size + 1 + 1 + 1 < w1.heap.size := (by omega))); (try (have : w.heap.size + 1 + 1 + 1 < w1.heap.size + 1 := (by omega))); (try (have : w.heap.size + 1 + 1 + 1 < w1.heap.size + 1 + 1 := (by omega)))) | (go_at_call 81; refine (bound_any _ _ _ _).mono ?_; rintro e w' ⟨rfl, rfl⟩))
        refine wp_loop_rounds 3 ?_
        rw [rounds_succ]
        go_wp2_with (go_at_call 81; refine (bound_any _ _ _ _).mono ?_; rintro e w' ⟨rfl, rfl⟩)
        rw [rounds_succ]
        go_wp2_with (go_at_call 81; refine (bound_any _ _ _ _).mono ?_; rintro e w' ⟨rfl, rfl⟩)
        rw [rounds_succ]
        go_wp2_with (go_at_call 81; refine (bound_any _ _ _ _).mono ?_; rintro e w' ⟨rfl, rfl⟩)
        go_ret
        exact ⟨int_eq H.out.symm, by repeat' first | with_reducible exact Below.refl _ _ | with_reducible assumption | with_reducible refine Free.Grow.alloc ?_ _ | with_reducible refine Free.Grow.setCell ?_ (by first | omega | (simp; done) | (simp; omega)) _ | with_reducible refine Free.Grow.drew ?_ | with_reducible refine Free.Grow.trans ?_ (by assumption)⟩
      | false =>
        have HZ : Hid (bnd z (-100000000) 100000000 = 0) := by unfold Hid; simpa using hbz
        go_enter Tryz.func74, Tryz.ntmps74
        go_wp2_with (first | (go_at_call 76; refine (vectorOf_any _ _ _ _).mono ?_; rintro e w1 ⟨rfl, hb1⟩; have hc1 := (Free.cells_of hb1).1; have hf1 := (Free.cells_of hb1).2; have hz1 := hb1.size; (try simp only [World.size_alloc, World.size_setCell, World.size_drew] at hz1); (try (have : w.heap.size < w1.heap.size := (by omega))); (try (have : w.heap.size < w1.heap.size + 1 := (by omega))); (try (have : w.heap.size < w1.heap.size + 1 + 1 := (by omega))); (try (have : w.heap.size + 1 < w1.heap.size := (by omega))); (try (have : w.heap.size + 1 < w1.heap.size + 1 := (by omega))); (try (have : w.heap.size + 1 < w1.heap.size + 1 + 1 := (by omega))); (try (have : w.heap.size + 1 + 1 < w1.heap.size := (by omega))); (try (have : w.heap.size + 1 + 1 < w1.heap.size + 1 := (by omega))); (try (have : w.heap.size + 1 + 1 < w1.heap.size + 1 + 1 := (by omega))); (try (have : w.heap.size + 1 + 1 + 1 < w1.heap.size := (by omega))); (try (have : w.heap.size + 1 + 1 + 1 < w1.heap.size + 1 := (by omega))); (try (have : w.heap.size + 1 + 1 + 1 < w1.heap.size + 1 + 1 := (by omega)))) | (go_at_call 81; refine (bound_any _ _ _ _).mono ?_; rintro e w' ⟨rfl, rfl⟩))
        refine wp_loop_rounds 4 ?_
        rw [rounds_succ]
        go_wp2_with (go_at_call 81; refine (bound_any _ _ _ _).mono ?_; rintro e w' ⟨rfl, rfl⟩)
        rw [rounds_succ]
        go_wp2_with (go_at_call 81; refine (bound_any _ _ _ _).mono ?_; rintro e w' ⟨rfl, rfl⟩)
        rw [rounds_succ]
        go_wp2_with (go_at_call 81; refine (bound_any _ _ _ _).mono ?_; rintro e w' ⟨rfl, rfl⟩)
        rw [rounds_succ]
        go_wp2
        go_ret
        exact ⟨int_eq (by rw [H.out, HZ.out]), by repeat' first | with_reducible exact Below.refl _ _ | with_reducible assumption | with_reducible refine Free.Grow.alloc ?_ _ | with_reducible refine Free.Grow.setCell ?_ (by first | omega | (simp; done) | (simp; omega)) _ | with_reducible refine Free.Grow.drew ?_ | with_reducible refine Free.Grow.trans ?_ (by assumption)⟩

abbrev stV (s : St) : Value := .agg #[.int .i64 s.t, .int .i64 s.x, .int .i64 s.y, .int .i64 s.z, .int .i64 s.e]

set_option maxHeartbeats 1000000 in
theorem checkState_any (s : St) (w : World) :
    Calls Tryz.prog 39 #[stV s] w fun e w' => e = .returned (.int .i64 (stE s)) ∧ Below w.heap.size w w' := by
  go_enter Tryz.func39, Tryz.ntmps39
  go_wp2
  refine Free.wp_region 9 #[0, 1, 3, 0, 8, 31, 0, 64, 255, 511, 1023, 2047] (by kernel_rfl) (by kernel_rfl) ?_
  simp only [List.take_succ_cons, List.take_zero]
  iterate 9
    refine Free.E.q (by rfl) ?_
    apply Exists.intro
    refine ⟨fun u w' hc hb => ?_, ?_⟩
    go_simp
    (try go_ints); (try simp only [Ob.ite_imx, Ob.ite_imn]); first | exact rfl | (go_simp; exact rfl) | ((go_at_call 81; exact Free.Calls.grow (bound_any _ _ _ _))) | ((go_at_call 74; exact checkPlace_any _ _ _ _)) | (simp only [↓IntWalk.iteOmega]; (try go_simp); exact rfl)
    simp only [Act.put, List.setIfInBounds_toArray, List.set_cons_zero, List.set_cons_succ, List.nil_append, List.cons_append]
  refine Free.E.nil (fun u w1 S hF => ?_)
  have hb1 := hF.below
  clear hF
  have hc1 := (Free.cells_of hb1).1
  have hf1 := (Free.cells_of hb1).2
  have hz1 := hb1.size
  try simp only [World.size_alloc, World.size_setCell, World.size_drew] at hz1
  (try (have : w.heap.size < w1.heap.size := (by omega)))
  (try (have : w.heap.size < w1.heap.size + 1 := (by omega)))
  (try (have : w.heap.size < w1.heap.size + 1 + 1 := (by omega)))
  (try (have : w.heap.size + 1 < w1.heap.size := (by omega)))
  (try (have : w.heap.size + 1 < w1.heap.size + 1 := (by omega)))
  (try (have : w.heap.size + 1 < w1.heap.size + 1 + 1 := (by omega)))
  (try (have : w.heap.size + 1 + 1 < w1.heap.size := (by omega)))
  (try (have : w.heap.size + 1 + 1 < w1.heap.size + 1 := (by omega)))
  (try (have : w.heap.size + 1 + 1 < w1.heap.size + 1 + 1 := (by omega)))
  (try (have : w.heap.size + 1 + 1 + 1 < w1.heap.size := (by omega)))
  (try (have : w.heap.size + 1 + 1 + 1 < w1.heap.size + 1 := (by omega)))
  (try (have : w.heap.size + 1 + 1 + 1 < w1.heap.size + 1 + 1 := (by omega)))
  simp only [List.drop_succ_cons, List.drop_zero, List.drop_nil]
  go_wp2_with (go_at_call 63; refine (first3_any _ (bnd s.t 0 1000000000) (placeE s.x s.y s.z) (bnd s.e 0 100000) _ (by simp [go_sem]) (by simp [go_sem]) (by simp [go_sem])).mono ?_; rintro e w' ⟨rfl, rfl⟩)
  go_ret
  exact ⟨rfl, by repeat' first | with_reducible exact Below.refl _ _ | with_reducible assumption | with_reducible refine Free.Grow.alloc ?_ _ | with_reducible refine Free.Grow.setCell ?_ (by first | omega | (simp; done) | (simp; omega)) _ | with_reducible refine Free.Grow.drew ?_ | with_reducible refine Free.Grow.trans ?_ (by assumption)⟩

set_option maxHeartbeats 1000000 in
theorem checkTick_any (b off cap : Nat) (l : List St) (i : Nat) (t : Int) (w : World) (hS : HasSts w b off l) (hi : i < l.length) (hn : l.length ≤ 1000)
    (h0 : i ≠ 0 → 0 ≤ (at_ l 0).t ∧ (at_ l 0).t ≤ (at_ l (i - 1)).t) (ht : t ≤ 9223372036854775807) :
    Calls Tryz.prog 91 #[.slice (some ⟨b, off, none⟩) i cap, .int .i64 t] w fun e w' => e = .returned (.int .i64 (tickE l i t)) ∧ w = w' := by
  obtain ⟨c1, -⟩ := hS 0 (by omega)
  obtain ⟨d1, -⟩ := hS (i - 1) (by omega)
  simp only [Nat.zero_mul, Nat.add_zero] at c1
  by_cases hz : i = 0
  · subst hz
    go_enter Tryz.func91, Tryz.ntmps91
    go_wp2
    go_ret
    exact ⟨by simp [tickE], rfl⟩
  · have hz2 : ((i : Int) == 0) = false := by simp; omega
    have hi1 : (1 : Int) ≤ i := by omega
    have hi2 : ((i : Int) - 1).toNat = i - 1 := by omega
    have hi3 : (i : Int) ≤ 1000 := by omega
    obtain ⟨g1, g2⟩ := h0 hz
    clear h0
    by_cases hle : t ≤ (at_ l (i - 1)).t
    · have H : Hid (tickE l i t = 9) := by unfold Hid tickE; rw [if_neg hz, if_pos hle]
      go_enter Tryz.func91, Tryz.ntmps91
      go_wp2
      go_ret
      exact ⟨int_eq H.out.symm, rfl⟩
    · by_cases hgt : t - (at_ l 0).t > 20000
      · have H : Hid (tickE l i t = 8) := by unfold Hid tickE; rw [if_neg hz, if_neg hle, if_pos hgt]
        go_enter Tryz.func91, Tryz.ntmps91
        go_wp2
        go_ret
        exact ⟨int_eq H.out.symm, rfl⟩
      · have H : Hid (tickE l i t = 0) := by unfold Hid tickE; rw [if_neg hz, if_neg hle, if_neg hgt]
        go_enter Tryz.func91, Tryz.ntmps91
        go_wp2
        go_ret
        exact ⟨int_eq H.out.symm, rfl⟩

theorem conv_bytes (w : World) (s : ByteArray) : ∃ cap w', (convert 9 92 (.string s)).run Tryz.prog w = .ok (.slice (some ⟨w.heap.size, 0, none⟩) s.size cap) w' ∧ Below w.heap.size w w' ∧
    ∀ k, k < s.size → w'.cell? ⟨w.heap.size, k, none⟩ = some (.int .u8 (bv s.data.toList k)) := by
  refine ⟨_, _, run_bytes_of_string w _ _ _ s Tryz.underlying9 Tryz.underlying92 Tryz.underlying5, by repeat' first | with_reducible exact Below.refl _ _ | with_reducible assumption | with_reducible refine Free.Grow.alloc ?_ _ | with_reducible refine Free.Grow.setCell ?_ (by first | omega | (simp; done) | (simp; omega)) _ | with_reducible refine Free.Grow.drew ?_ | with_reducible refine Free.Grow.trans ?_ (by assumption), fun k hk => ?_⟩
  have := World.cell?_alloc_mark w.drew (bytesRow s (grownCap w s.size 0 5)) 5 ((bytesRow s (grownCap w s.size 0 5)).size, (bytesRow s (grownCap w s.size 0 5)).size + 1) k
  rw [bytesRow_at s _ k hk] at this
  rw [show w.heap.size = w.drew.heap.size from rfl, this]
  have hk' : k < s.data.toList.length := by simpa using hk
  simp only [bv, List.getD_eq_getElem?_getD, List.getElem?_eq_getElem hk', Option.getD_some, Array.getElem_toList]

set_option maxRecDepth 100000 in
set_option maxHeartbeats 4000000 in
theorem isName_any (s : ByteArray) (w : World) (hs : s.size ≤ 1000) :
    Calls Tryz.prog 90 #[.string s] w fun e w' => e = .returned (.bool (nameB s.data.toList)) ∧ Below w.heap.size w w' := by
  obtain ⟨cap, w1, hrun, hb1, hcells⟩ := conv_bytes w s
  have HC := Lib.hid hcells
  clear hcells
  have hlen : Hid (s.data.toList.length = s.size) := by unfold Hid; simp
  go_enter Tryz.func90, Tryz.ntmps90
  go_wp2
  clear hrun
  go_loop [3, 4, 5, 9] (fun _ _ _ i => ∃ k : Nat, k ≤ s.size ∧ i = .int .i64 k ∧ ∀ j, j < k → okN j (bv s.data.toList j)) (fun _ _ _ i => s.size - (intOf i).toNat)
  case atStart => exact ⟨0, Nat.zero_le _, rfl, fun _ h => by omega⟩
  case round =>
    obtain ⟨k, hk, rfl, hf⟩ := hrel
    have HF := Lib.hid hf
    clear hf
    by_cases hlt : k < s.size
    · have hck := HC.out k hlt
      obtain ⟨hv0, hv1⟩ := bv_bd s.data.toList k
      have HNo : ¬ okN k (bv s.data.toList k) → Ending.returned (.bool false) = .returned (.bool (nameB s.data.toList)) := fun h => by rw [nameB_no (by rw [hlen.out]; exact hlt) h]
      have HN := Lib.hid HNo
      clear HNo
      generalize hn : bv s.data.toList k = n at *
      have HV := Lib.hid hn
      clear hn
      obtain ⟨bk, hbk⟩ : ∃ b : Bool, ((k : Int) == 0) = b := ⟨_, rfl⟩
      obtain ⟨b45, hb45⟩ : ∃ b : Bool, (n != 45) = b := ⟨_, rfl⟩
      cases bk <;> cases b45
      all_goals
        have hk0 := hbk
        have hn45 := hb45
        simp only [beq_iff_eq, bne_iff_ne, beq_eq_false_iff_ne, ne_eq, bne_eq_false_iff_eq] at hk0 hn45
        have HK := Lib.hid hk0
        have H45 := Lib.hid hn45
        clear hk0 hn45
        go_wp2
        all_goals first
          | (go_round
             case measure => simp [intOf]; omega
             case rel =>
               refine ⟨k + 1, by omega, by go_num, fun j hj => ?_⟩
               by_cases hjk : j = k
               · subst hjk; rw [HV.out]; have := HK.out; have := H45.out; unfold okN; omega
               · exact HF.out j (by omega))
          | (go_ret
             exact ⟨HN.out (by have := HK.out; have := H45.out; unfold okN; omega), by repeat' first | with_reducible exact Below.refl _ _ | with_reducible assumption | with_reducible refine Free.Grow.alloc ?_ _ | with_reducible refine Free.Grow.setCell ?_ (by first | omega | (simp; done) | (simp; omega)) _ | with_reducible refine Free.Grow.drew ?_ | with_reducible refine Free.Grow.trans ?_ (by assumption)⟩)
          | (exfalso; rename_i hx; simp only [Bool.not_eq_false', decide_eq_true_eq] at hx; omega)
    · have hend := nameB_end (l := s.data.toList) (fun j hj => HF.out j (by rw [hlen.out] at hj; omega))
      rw [hlen.out] at hend
      have HE := Lib.hid hend
      clear hend
      have hem : s.toList.isEmpty = decide (s.size = 0) := by
        have : s.toList.length = s.size := by rw [ByteArray.toList_eq]; simp
        cases hl : s.toList with
        | nil => rw [hl, List.length_nil] at this; simp [← this]
        | cons c r => rw [hl, List.length_cons] at this; simp [← this]
      by_cases h0 : s.size = 0
      · have h1 : s.toList = [] := by simpa [h0] using hem
        rw [decide_eq_true h0] at hem
        have H0 := Lib.hid h0
        clear h0
        go_wp2
        go_ret
        exact ⟨by rw [HE.out, decide_eq_false (by have := H0.out; omega)]; simp, by repeat' first | with_reducible exact Below.refl _ _ | with_reducible assumption | with_reducible refine Free.Grow.alloc ?_ _ | with_reducible refine Free.Grow.setCell ?_ (by first | omega | (simp; done) | (simp; omega)) _ | with_reducible refine Free.Grow.drew ?_ | with_reducible refine Free.Grow.trans ?_ (by assumption)⟩
      · rw [decide_eq_false h0] at hem
        have h1 : ¬ s.toList = [] := by intro h; rw [h] at hem; cases hem
        by_cases h12 : (s.size : Int) ≤ 12
        · go_wp2
          go_ret
          exact ⟨by rw [HE.out, decide_eq_true (by omega)]; simp [h12], by repeat' first | with_reducible exact Below.refl _ _ | with_reducible assumption | with_reducible refine Free.Grow.alloc ?_ _ | with_reducible refine Free.Grow.setCell ?_ (by first | omega | (simp; done) | (simp; omega)) _ | with_reducible refine Free.Grow.drew ?_ | with_reducible refine Free.Grow.trans ?_ (by assumption)⟩
        · go_wp2
          go_ret
          exact ⟨by rw [HE.out, decide_eq_false (by omega)]; simp, by repeat' first | with_reducible exact Below.refl _ _ | with_reducible assumption | with_reducible refine Free.Grow.alloc ?_ _ | with_reducible refine Free.Grow.setCell ?_ (by first | omega | (simp; done) | (simp; omega)) _ | with_reducible refine Free.Grow.drew ?_ | with_reducible refine Free.Grow.trans ?_ (by assumption)⟩
end Go.Proofs.YthhhkjbhhjcjoaaGreatDoor
