/- Chapter 2: boxes and nominal places of the program. -/
import Derived.Test.YthhhkjbhhjcjoaaGreatDoor02f
import Derived.Test.YthhhkjbhhjcjoaaGreatDoor02Spec
set_option linter.unusedSimpArgs false
set_option linter.unusedVariables false
namespace Go.Proofs.YthhhkjbhhjcjoaaGreatDoor
open Go.RowKit Go.Ob

theorem idx3v_0 (x y z : Int) (w : World) : (Instr.index 140 (.agg #[.int .i64 x, .int .i64 y, .int .i64 z]) (.int .i64 0)).run Tryz.prog w = .ok (.int .i64 x) w := by kernel_rfl
theorem idx3v_1 (x y z : Int) (w : World) : (Instr.index 140 (.agg #[.int .i64 x, .int .i64 y, .int .i64 z]) (.int .i64 1)).run Tryz.prog w = .ok (.int .i64 y) w := by kernel_rfl
theorem idx3v_2 (x y z : Int) (w : World) : (Instr.index 140 (.agg #[.int .i64 x, .int .i64 y, .int .i64 z]) (.int .i64 2)).run Tryz.prog w = .ok (.int .i64 z) w := by kernel_rfl
theorem idxbx_0 (a b c d e f : Int) (w : World) : (Instr.index 132 (.agg #[.int .i64 a, .int .i64 b, .int .i64 c, .int .i64 d, .int .i64 e, .int .i64 f]) (.int .i64 0)).run Tryz.prog w = .ok (.agg #[.int .i64 a, .int .i64 b]) w := by kernel_rfl
theorem idxbx_1 (a b c d e f : Int) (w : World) : (Instr.index 132 (.agg #[.int .i64 a, .int .i64 b, .int .i64 c, .int .i64 d, .int .i64 e, .int .i64 f]) (.int .i64 1)).run Tryz.prog w = .ok (.agg #[.int .i64 c, .int .i64 d]) w := by kernel_rfl
theorem idxbx_2 (a b c d e f : Int) (w : World) : (Instr.index 132 (.agg #[.int .i64 a, .int .i64 b, .int .i64 c, .int .i64 d, .int .i64 e, .int .i64 f]) (.int .i64 2)).run Tryz.prog w = .ok (.agg #[.int .i64 e, .int .i64 f]) w := by kernel_rfl
attribute [go_sem] idx3v_0 idx3v_1 idx3v_2 idxbx_0 idxbx_1 idxbx_2

abbrev bxV (b : Bx) : Value := .agg #[.int .i64 b.l0, .int .i64 b.h0, .int .i64 b.l1, .int .i64 b.h1, .int .i64 b.l2, .int .i64 b.h2]
set_option maxRecDepth 100000 in
set_option maxHeartbeats 4000000 in
theorem box_any (nm : ByteArray) (bd t : Int) (b off cap : Nat) (l : List St) (w : World) (hR : Right bd l) (h0 : frstT l ≤ t) (h1 : t ≤ lastT l) (hS : HasSts w b off l) (hbw : b < w.heap.size) (hcap : l.length ≤ cap) :
    Calls Tryz.prog 69 #[obV nm bd (some ⟨b, off, none⟩) l.length cap, .int .i64 t] w fun e w' => e = .returned (bxV (bx bd l t)) ∧ Below w.heap.size w w' := by
  have hok := pt_ok hR h0 h1
  have hoff := offP_bd hok hR.b0 hR.b1
  have HC := Lib.hid (fun w' (hS' : HasSts w' b off l) (hb' : b < w'.heap.size) => point_any nm bd t b off cap l w' hR h0 h1 hS' hb' hcap)
  have HS := Lib.hid hS
  have HN : Hid (bx bd l t = bxP bd (pt l t)) := rfl
  clear hS h0 h1 hR
  generalize pt l t = p at *
  obtain ⟨a0, a1, a2, er, ov, bn⟩ := p
  obtain ⟨o0, o1, q00, q01, q10, q11, q20, q21, e0, e1⟩ := hok
  obtain ⟨m0, m1, f0, f1⟩ := hoff
  cases bn with
  | false =>
    have HO : offP bd ⟨a0, a1, a2, er, ov, false⟩ = er := rfl
    simp only at *
    rw [HO] at f0 f1
    clear HO
    go_enter Tryz.func69, Tryz.ntmps69
    go_wp2_with (go_at_call 104; refine (HC.out _ (HS.out.below (B := w.heap.size) (by repeat' first | with_reducible exact Below.refl _ _ | with_reducible assumption | with_reducible refine Free.Grow.alloc ?_ _ | with_reducible refine Free.Grow.setCell ?_ (by first | omega | (simp; done) | (simp; omega)) _ | with_reducible refine Free.Grow.drew ?_ | with_reducible refine Free.Grow.trans ?_ (by assumption)) hbw) (by simp; omega)).mono ?_; rintro e w1 ⟨rfl, hb1⟩; have hc1 := (Free.cells_of hb1).1; have hf1 := (Free.cells_of hb1).2; have hz1 := hb1.size; (try simp only [World.size_alloc, World.size_setCell, World.size_drew] at hz1); (try (have : w.heap.size < w1.heap.size := (by omega))); (try (have : w.heap.size < w1.heap.size + 1 := (by omega))); (try (have : w.heap.size < w1.heap.size + 1 + 1 := (by omega))); (try (have : w.heap.size + 1 < w1.heap.size := (by omega))); (try (have : w.heap.size + 1 < w1.heap.size + 1 := (by omega))); (try (have : w.heap.size + 1 < w1.heap.size + 1 + 1 := (by omega))); (try (have : w.heap.size + 1 + 1 < w1.heap.size := (by omega))); (try (have : w.heap.size + 1 + 1 < w1.heap.size + 1 := (by omega))); (try (have : w.heap.size + 1 + 1 < w1.heap.size + 1 + 1 := (by omega))); (try (have : w.heap.size + 1 + 1 + 1 < w1.heap.size := (by omega))); (try (have : w.heap.size + 1 + 1 + 1 < w1.heap.size + 1 := (by omega))); (try (have : w.heap.size + 1 + 1 + 1 < w1.heap.size + 1 + 1 := (by omega))))
    refine wp_loop_rounds 4 ?_
    rw [rounds_succ]
    go_wp2
    refine Free.wp_region 15 #[0, 0, 0, 6, 0, 16, 62, 0, 0, 384, 0, 1024, 4094, 8190, 16383, 32767] (by kernel_rfl) (by kernel_rfl) ?_
    simp only [List.take_succ_cons, List.take_zero]
    iterate 15
      refine Free.E.q (by rfl) ?_
      apply Exists.intro
      refine ⟨fun u w' hc hb => ?_, ?_⟩
      go_simp
      (try go_ints); (try simp only [Ob.ite_imx, Ob.ite_imn]); first | exact rfl | (go_simp; exact rfl) | ((go_at_call 105; exact Free.Calls.grow (floor_any _ _ _ (by omega) (by omega) (by omega) (by omega)))) | ((go_at_call 106; exact Free.Calls.grow (ceil_any _ _ _ (by omega) (by omega) (by omega) (by omega)))) | (simp only [↓IntWalk.iteOmega]; (try go_simp); exact rfl)
      simp only [Act.put, List.setIfInBounds_toArray, List.set_cons_zero, List.set_cons_succ, List.nil_append, List.cons_append]
    refine Free.E.nil (fun u wa S hF => ?_)
    have hba := hF.below
    clear hF
    have hca := (Free.cells_of hba).1
    have hfa := (Free.cells_of hba).2
    have hza := hba.size
    try simp only [World.size_alloc, World.size_setCell, World.size_drew] at hza
    (try (have : w.heap.size < wa.heap.size := (by omega)))
    (try (have : w.heap.size < wa.heap.size + 1 := (by omega)))
    (try (have : w.heap.size < wa.heap.size + 1 + 1 := (by omega)))
    (try (have : w.heap.size + 1 < wa.heap.size := (by omega)))
    (try (have : w.heap.size + 1 < wa.heap.size + 1 := (by omega)))
    (try (have : w.heap.size + 1 < wa.heap.size + 1 + 1 := (by omega)))
    (try (have : w.heap.size + 1 + 1 < wa.heap.size := (by omega)))
    (try (have : w.heap.size + 1 + 1 < wa.heap.size + 1 := (by omega)))
    (try (have : w.heap.size + 1 + 1 < wa.heap.size + 1 + 1 := (by omega)))
    (try (have : w.heap.size + 1 + 1 + 1 < wa.heap.size := (by omega)))
    (try (have : w.heap.size + 1 + 1 + 1 < wa.heap.size + 1 := (by omega)))
    (try (have : w.heap.size + 1 + 1 + 1 < wa.heap.size + 1 + 1 := (by omega)))
    (try (have : w1.heap.size < wa.heap.size := (by omega)))
    (try (have : w1.heap.size < wa.heap.size + 1 := (by omega)))
    (try (have : w1.heap.size < wa.heap.size + 1 + 1 := (by omega)))
    (try (have : w1.heap.size + 1 < wa.heap.size := (by omega)))
    (try (have : w1.heap.size + 1 < wa.heap.size + 1 := (by omega)))
    (try (have : w1.heap.size + 1 < wa.heap.size + 1 + 1 := (by omega)))
    (try (have : w1.heap.size + 1 + 1 < wa.heap.size := (by omega)))
    (try (have : w1.heap.size + 1 + 1 < wa.heap.size + 1 := (by omega)))
    (try (have : w1.heap.size + 1 + 1 < wa.heap.size + 1 + 1 := (by omega)))
    (try (have : w1.heap.size + 1 + 1 + 1 < wa.heap.size := (by omega)))
    (try (have : w1.heap.size + 1 + 1 + 1 < wa.heap.size + 1 := (by omega)))
    (try (have : w1.heap.size + 1 + 1 + 1 < wa.heap.size + 1 + 1 := (by omega)))
    simp only [List.drop_succ_cons, List.drop_zero, List.drop_nil]
    go_wp2
    rw [rounds_succ]
    go_wp2
    refine Free.wp_region 15 #[0, 0, 0, 6, 0, 16, 62, 0, 0, 384, 0, 1024, 4094, 8190, 16383, 32767] (by kernel_rfl) (by kernel_rfl) ?_
    simp only [List.take_succ_cons, List.take_zero]
    iterate 15
      refine Free.E.q (by rfl) ?_
      apply Exists.intro
      refine ⟨fun u w' hc hb => ?_, ?_⟩
      go_simp
      (try go_ints); (try simp only [Ob.ite_imx, Ob.ite_imn]); first | exact rfl | (go_simp; exact rfl) | ((go_at_call 105; exact Free.Calls.grow (floor_any _ _ _ (by omega) (by omega) (by omega) (by omega)))) | ((go_at_call 106; exact Free.Calls.grow (ceil_any _ _ _ (by omega) (by omega) (by omega) (by omega)))) | (simp only [↓IntWalk.iteOmega]; (try go_simp); exact rfl)
      simp only [Act.put, List.setIfInBounds_toArray, List.set_cons_zero, List.set_cons_succ, List.nil_append, List.cons_append]
    refine Free.E.nil (fun u wb S hF => ?_)
    have hbb := hF.below
    clear hF
    have hcb := (Free.cells_of hbb).1
    have hfb := (Free.cells_of hbb).2
    have hzb := hbb.size
    try simp only [World.size_alloc, World.size_setCell, World.size_drew] at hzb
    (try (have : w.heap.size < wb.heap.size := (by omega)))
    (try (have : w.heap.size < wb.heap.size + 1 := (by omega)))
    (try (have : w.heap.size < wb.heap.size + 1 + 1 := (by omega)))
    (try (have : w.heap.size + 1 < wb.heap.size := (by omega)))
    (try (have : w.heap.size + 1 < wb.heap.size + 1 := (by omega)))
    (try (have : w.heap.size + 1 < wb.heap.size + 1 + 1 := (by omega)))
    (try (have : w.heap.size + 1 + 1 < wb.heap.size := (by omega)))
    (try (have : w.heap.size + 1 + 1 < wb.heap.size + 1 := (by omega)))
    (try (have : w.heap.size + 1 + 1 < wb.heap.size + 1 + 1 := (by omega)))
    (try (have : w.heap.size + 1 + 1 + 1 < wb.heap.size := (by omega)))
    (try (have : w.heap.size + 1 + 1 + 1 < wb.heap.size + 1 := (by omega)))
    (try (have : w.heap.size + 1 + 1 + 1 < wb.heap.size + 1 + 1 := (by omega)))
    (try (have : w1.heap.size < wb.heap.size := (by omega)))
    (try (have : w1.heap.size < wb.heap.size + 1 := (by omega)))
    (try (have : w1.heap.size < wb.heap.size + 1 + 1 := (by omega)))
    (try (have : w1.heap.size + 1 < wb.heap.size := (by omega)))
    (try (have : w1.heap.size + 1 < wb.heap.size + 1 := (by omega)))
    (try (have : w1.heap.size + 1 < wb.heap.size + 1 + 1 := (by omega)))
    (try (have : w1.heap.size + 1 + 1 < wb.heap.size := (by omega)))
    (try (have : w1.heap.size + 1 + 1 < wb.heap.size + 1 := (by omega)))
    (try (have : w1.heap.size + 1 + 1 < wb.heap.size + 1 + 1 := (by omega)))
    (try (have : w1.heap.size + 1 + 1 + 1 < wb.heap.size := (by omega)))
    (try (have : w1.heap.size + 1 + 1 + 1 < wb.heap.size + 1 := (by omega)))
    (try (have : w1.heap.size + 1 + 1 + 1 < wb.heap.size + 1 + 1 := (by omega)))
    simp only [List.drop_succ_cons, List.drop_zero, List.drop_nil]
    go_wp2
    rw [rounds_succ]
    go_wp2
    refine Free.wp_region 15 #[0, 0, 0, 6, 0, 16, 62, 0, 0, 384, 0, 1024, 4094, 8190, 16383, 32767] (by kernel_rfl) (by kernel_rfl) ?_
    simp only [List.take_succ_cons, List.take_zero]
    iterate 15
      refine Free.E.q (by rfl) ?_
      apply Exists.intro
      refine ⟨fun u w' hc hb => ?_, ?_⟩
      go_simp
      (try go_ints); (try simp only [Ob.ite_imx, Ob.ite_imn]); first | exact rfl | (go_simp; exact rfl) | ((go_at_call 105; exact Free.Calls.grow (floor_any _ _ _ (by omega) (by omega) (by omega) (by omega)))) | ((go_at_call 106; exact Free.Calls.grow (ceil_any _ _ _ (by omega) (by omega) (by omega) (by omega)))) | (simp only [↓IntWalk.iteOmega]; (try go_simp); exact rfl)
      simp only [Act.put, List.setIfInBounds_toArray, List.set_cons_zero, List.set_cons_succ, List.nil_append, List.cons_append]
    refine Free.E.nil (fun u wc S hF => ?_)
    have hbc := hF.below
    clear hF
    have hcc := (Free.cells_of hbc).1
    have hfc := (Free.cells_of hbc).2
    have hzc := hbc.size
    try simp only [World.size_alloc, World.size_setCell, World.size_drew] at hzc
    (try (have : w.heap.size < wc.heap.size := (by omega)))
    (try (have : w.heap.size < wc.heap.size + 1 := (by omega)))
    (try (have : w.heap.size < wc.heap.size + 1 + 1 := (by omega)))
    (try (have : w.heap.size + 1 < wc.heap.size := (by omega)))
    (try (have : w.heap.size + 1 < wc.heap.size + 1 := (by omega)))
    (try (have : w.heap.size + 1 < wc.heap.size + 1 + 1 := (by omega)))
    (try (have : w.heap.size + 1 + 1 < wc.heap.size := (by omega)))
    (try (have : w.heap.size + 1 + 1 < wc.heap.size + 1 := (by omega)))
    (try (have : w.heap.size + 1 + 1 < wc.heap.size + 1 + 1 := (by omega)))
    (try (have : w.heap.size + 1 + 1 + 1 < wc.heap.size := (by omega)))
    (try (have : w.heap.size + 1 + 1 + 1 < wc.heap.size + 1 := (by omega)))
    (try (have : w.heap.size + 1 + 1 + 1 < wc.heap.size + 1 + 1 := (by omega)))
    (try (have : w1.heap.size < wc.heap.size := (by omega)))
    (try (have : w1.heap.size < wc.heap.size + 1 := (by omega)))
    (try (have : w1.heap.size < wc.heap.size + 1 + 1 := (by omega)))
    (try (have : w1.heap.size + 1 < wc.heap.size := (by omega)))
    (try (have : w1.heap.size + 1 < wc.heap.size + 1 := (by omega)))
    (try (have : w1.heap.size + 1 < wc.heap.size + 1 + 1 := (by omega)))
    (try (have : w1.heap.size + 1 + 1 < wc.heap.size := (by omega)))
    (try (have : w1.heap.size + 1 + 1 < wc.heap.size + 1 := (by omega)))
    (try (have : w1.heap.size + 1 + 1 < wc.heap.size + 1 + 1 := (by omega)))
    (try (have : w1.heap.size + 1 + 1 + 1 < wc.heap.size := (by omega)))
    (try (have : w1.heap.size + 1 + 1 + 1 < wc.heap.size + 1 := (by omega)))
    (try (have : w1.heap.size + 1 + 1 + 1 < wc.heap.size + 1 + 1 := (by omega)))
    simp only [List.drop_succ_cons, List.drop_zero, List.drop_nil]
    go_wp2
    rw [rounds_succ]
    go_wp2

    refine bodyPost_ret (v := bxV (bxP bd ⟨a0, a1, a2, er, ov, false⟩)) (by simp [results, Tryz.results69, go_sem, bxP, dn, up, offP, *]) rfl ?_
    exact ⟨by rw [HN.out], by repeat' first | with_reducible exact Below.refl _ _ | with_reducible assumption | with_reducible refine Free.Grow.alloc ?_ _ | with_reducible refine Free.Grow.setCell ?_ (by first | omega | (simp; done) | (simp; omega)) _ | with_reducible refine Free.Grow.drew ?_ | with_reducible refine Free.Grow.trans ?_ (by assumption)⟩
  | true =>
    have HO : offP bd ⟨a0, a1, a2, er, ov, true⟩ = er + bd * ov := rfl
    simp only at *
    rw [HO] at f0 f1
    clear HO
    go_enter Tryz.func69, Tryz.ntmps69
    go_wp2_with (go_at_call 104; refine (HC.out _ (HS.out.below (B := w.heap.size) (by repeat' first | with_reducible exact Below.refl _ _ | with_reducible assumption | with_reducible refine Free.Grow.alloc ?_ _ | with_reducible refine Free.Grow.setCell ?_ (by first | omega | (simp; done) | (simp; omega)) _ | with_reducible refine Free.Grow.drew ?_ | with_reducible refine Free.Grow.trans ?_ (by assumption)) hbw) (by simp; omega)).mono ?_; rintro e w1 ⟨rfl, hb1⟩; have hc1 := (Free.cells_of hb1).1; have hf1 := (Free.cells_of hb1).2; have hz1 := hb1.size; (try simp only [World.size_alloc, World.size_setCell, World.size_drew] at hz1); (try (have : w.heap.size < w1.heap.size := (by omega))); (try (have : w.heap.size < w1.heap.size + 1 := (by omega))); (try (have : w.heap.size < w1.heap.size + 1 + 1 := (by omega))); (try (have : w.heap.size + 1 < w1.heap.size := (by omega))); (try (have : w.heap.size + 1 < w1.heap.size + 1 := (by omega))); (try (have : w.heap.size + 1 < w1.heap.size + 1 + 1 := (by omega))); (try (have : w.heap.size + 1 + 1 < w1.heap.size := (by omega))); (try (have : w.heap.size + 1 + 1 < w1.heap.size + 1 := (by omega))); (try (have : w.heap.size + 1 + 1 < w1.heap.size + 1 + 1 := (by omega))); (try (have : w.heap.size + 1 + 1 + 1 < w1.heap.size := (by omega))); (try (have : w.heap.size + 1 + 1 + 1 < w1.heap.size + 1 := (by omega))); (try (have : w.heap.size + 1 + 1 + 1 < w1.heap.size + 1 + 1 := (by omega))))
    refine wp_loop_rounds 4 ?_
    rw [rounds_succ]
    go_wp2
    refine Free.wp_region 15 #[0, 0, 0, 6, 0, 16, 62, 0, 0, 384, 0, 1024, 4094, 8190, 16383, 32767] (by kernel_rfl) (by kernel_rfl) ?_
    simp only [List.take_succ_cons, List.take_zero]
    iterate 15
      refine Free.E.q (by rfl) ?_
      apply Exists.intro
      refine ⟨fun u w' hc hb => ?_, ?_⟩
      go_simp
      (try go_ints); (try simp only [Ob.ite_imx, Ob.ite_imn]); first | exact rfl | (go_simp; exact rfl) | ((go_at_call 105; exact Free.Calls.grow (floor_any _ _ _ (by omega) (by omega) (by omega) (by omega)))) | ((go_at_call 106; exact Free.Calls.grow (ceil_any _ _ _ (by omega) (by omega) (by omega) (by omega)))) | (simp only [↓IntWalk.iteOmega]; (try go_simp); exact rfl)
      simp only [Act.put, List.setIfInBounds_toArray, List.set_cons_zero, List.set_cons_succ, List.nil_append, List.cons_append]
    refine Free.E.nil (fun u wa S hF => ?_)
    have hba := hF.below
    clear hF
    have hca := (Free.cells_of hba).1
    have hfa := (Free.cells_of hba).2
    have hza := hba.size
    try simp only [World.size_alloc, World.size_setCell, World.size_drew] at hza
    (try (have : w.heap.size < wa.heap.size := (by omega)))
    (try (have : w.heap.size < wa.heap.size + 1 := (by omega)))
    (try (have : w.heap.size < wa.heap.size + 1 + 1 := (by omega)))
    (try (have : w.heap.size + 1 < wa.heap.size := (by omega)))
    (try (have : w.heap.size + 1 < wa.heap.size + 1 := (by omega)))
    (try (have : w.heap.size + 1 < wa.heap.size + 1 + 1 := (by omega)))
    (try (have : w.heap.size + 1 + 1 < wa.heap.size := (by omega)))
    (try (have : w.heap.size + 1 + 1 < wa.heap.size + 1 := (by omega)))
    (try (have : w.heap.size + 1 + 1 < wa.heap.size + 1 + 1 := (by omega)))
    (try (have : w.heap.size + 1 + 1 + 1 < wa.heap.size := (by omega)))
    (try (have : w.heap.size + 1 + 1 + 1 < wa.heap.size + 1 := (by omega)))
    (try (have : w.heap.size + 1 + 1 + 1 < wa.heap.size + 1 + 1 := (by omega)))
    (try (have : w1.heap.size < wa.heap.size := (by omega)))
    (try (have : w1.heap.size < wa.heap.size + 1 := (by omega)))
    (try (have : w1.heap.size < wa.heap.size + 1 + 1 := (by omega)))
    (try (have : w1.heap.size + 1 < wa.heap.size := (by omega)))
    (try (have : w1.heap.size + 1 < wa.heap.size + 1 := (by omega)))
    (try (have : w1.heap.size + 1 < wa.heap.size + 1 + 1 := (by omega)))
    (try (have : w1.heap.size + 1 + 1 < wa.heap.size := (by omega)))
    (try (have : w1.heap.size + 1 + 1 < wa.heap.size + 1 := (by omega)))
    (try (have : w1.heap.size + 1 + 1 < wa.heap.size + 1 + 1 := (by omega)))
    (try (have : w1.heap.size + 1 + 1 + 1 < wa.heap.size := (by omega)))
    (try (have : w1.heap.size + 1 + 1 + 1 < wa.heap.size + 1 := (by omega)))
    (try (have : w1.heap.size + 1 + 1 + 1 < wa.heap.size + 1 + 1 := (by omega)))
    simp only [List.drop_succ_cons, List.drop_zero, List.drop_nil]
    go_wp2
    rw [rounds_succ]
    go_wp2
    refine Free.wp_region 15 #[0, 0, 0, 6, 0, 16, 62, 0, 0, 384, 0, 1024, 4094, 8190, 16383, 32767] (by kernel_rfl) (by kernel_rfl) ?_
    simp only [List.take_succ_cons, List.take_zero]
    iterate 15
      refine Free.E.q (by rfl) ?_
      apply Exists.intro
      refine ⟨fun u w' hc hb => ?_, ?_⟩
      go_simp
      (try go_ints); (try simp only [Ob.ite_imx, Ob.ite_imn]); first | exact rfl | (go_simp; exact rfl) | ((go_at_call 105; exact Free.Calls.grow (floor_any _ _ _ (by omega) (by omega) (by omega) (by omega)))) | ((go_at_call 106; exact Free.Calls.grow (ceil_any _ _ _ (by omega) (by omega) (by omega) (by omega)))) | (simp only [↓IntWalk.iteOmega]; (try go_simp); exact rfl)
      simp only [Act.put, List.setIfInBounds_toArray, List.set_cons_zero, List.set_cons_succ, List.nil_append, List.cons_append]
    refine Free.E.nil (fun u wb S hF => ?_)
    have hbb := hF.below
    clear hF
    have hcb := (Free.cells_of hbb).1
    have hfb := (Free.cells_of hbb).2
    have hzb := hbb.size
    try simp only [World.size_alloc, World.size_setCell, World.size_drew] at hzb
    (try (have : w.heap.size < wb.heap.size := (by omega)))
    (try (have : w.heap.size < wb.heap.size + 1 := (by omega)))
    (try (have : w.heap.size < wb.heap.size + 1 + 1 := (by omega)))
    (try (have : w.heap.size + 1 < wb.heap.size := (by omega)))
    (try (have : w.heap.size + 1 < wb.heap.size + 1 := (by omega)))
    (try (have : w.heap.size + 1 < wb.heap.size + 1 + 1 := (by omega)))
    (try (have : w.heap.size + 1 + 1 < wb.heap.size := (by omega)))
    (try (have : w.heap.size + 1 + 1 < wb.heap.size + 1 := (by omega)))
    (try (have : w.heap.size + 1 + 1 < wb.heap.size + 1 + 1 := (by omega)))
    (try (have : w.heap.size + 1 + 1 + 1 < wb.heap.size := (by omega)))
    (try (have : w.heap.size + 1 + 1 + 1 < wb.heap.size + 1 := (by omega)))
    (try (have : w.heap.size + 1 + 1 + 1 < wb.heap.size + 1 + 1 := (by omega)))
    (try (have : w1.heap.size < wb.heap.size := (by omega)))
    (try (have : w1.heap.size < wb.heap.size + 1 := (by omega)))
    (try (have : w1.heap.size < wb.heap.size + 1 + 1 := (by omega)))
    (try (have : w1.heap.size + 1 < wb.heap.size := (by omega)))
    (try (have : w1.heap.size + 1 < wb.heap.size + 1 := (by omega)))
    (try (have : w1.heap.size + 1 < wb.heap.size + 1 + 1 := (by omega)))
    (try (have : w1.heap.size + 1 + 1 < wb.heap.size := (by omega)))
    (try (have : w1.heap.size + 1 + 1 < wb.heap.size + 1 := (by omega)))
    (try (have : w1.heap.size + 1 + 1 < wb.heap.size + 1 + 1 := (by omega)))
    (try (have : w1.heap.size + 1 + 1 + 1 < wb.heap.size := (by omega)))
    (try (have : w1.heap.size + 1 + 1 + 1 < wb.heap.size + 1 := (by omega)))
    (try (have : w1.heap.size + 1 + 1 + 1 < wb.heap.size + 1 + 1 := (by omega)))
    simp only [List.drop_succ_cons, List.drop_zero, List.drop_nil]
    go_wp2
    rw [rounds_succ]
    go_wp2
    refine Free.wp_region 15 #[0, 0, 0, 6, 0, 16, 62, 0, 0, 384, 0, 1024, 4094, 8190, 16383, 32767] (by kernel_rfl) (by kernel_rfl) ?_
    simp only [List.take_succ_cons, List.take_zero]
    iterate 15
      refine Free.E.q (by rfl) ?_
      apply Exists.intro
      refine ⟨fun u w' hc hb => ?_, ?_⟩
      go_simp
      (try go_ints); (try simp only [Ob.ite_imx, Ob.ite_imn]); first | exact rfl | (go_simp; exact rfl) | ((go_at_call 105; exact Free.Calls.grow (floor_any _ _ _ (by omega) (by omega) (by omega) (by omega)))) | ((go_at_call 106; exact Free.Calls.grow (ceil_any _ _ _ (by omega) (by omega) (by omega) (by omega)))) | (simp only [↓IntWalk.iteOmega]; (try go_simp); exact rfl)
      simp only [Act.put, List.setIfInBounds_toArray, List.set_cons_zero, List.set_cons_succ, List.nil_append, List.cons_append]
    refine Free.E.nil (fun u wc S hF => ?_)
    have hbc := hF.below
    clear hF
    have hcc := (Free.cells_of hbc).1
    have hfc := (Free.cells_of hbc).2
    have hzc := hbc.size
    try simp only [World.size_alloc, World.size_setCell, World.size_drew] at hzc
    (try (have : w.heap.size < wc.heap.size := (by omega)))
    (try (have : w.heap.size < wc.heap.size + 1 := (by omega)))
    (try (have : w.heap.size < wc.heap.size + 1 + 1 := (by omega)))
    (try (have : w.heap.size + 1 < wc.heap.size := (by omega)))
    (try (have : w.heap.size + 1 < wc.heap.size + 1 := (by omega)))
    (try (have : w.heap.size + 1 < wc.heap.size + 1 + 1 := (by omega)))
    (try (have : w.heap.size + 1 + 1 < wc.heap.size := (by omega)))
    (try (have : w.heap.size + 1 + 1 < wc.heap.size + 1 := (by omega)))
    (try (have : w.heap.size + 1 + 1 < wc.heap.size + 1 + 1 := (by omega)))
    (try (have : w.heap.size + 1 + 1 + 1 < wc.heap.size := (by omega)))
    (try (have : w.heap.size + 1 + 1 + 1 < wc.heap.size + 1 := (by omega)))
    (try (have : w.heap.size + 1 + 1 + 1 < wc.heap.size + 1 + 1 := (by omega)))
    (try (have : w1.heap.size < wc.heap.size := (by omega)))
    (try (have : w1.heap.size < wc.heap.size + 1 := (by omega)))
    (try (have : w1.heap.size < wc.heap.size + 1 + 1 := (by omega)))
    (try (have : w1.heap.size + 1 < wc.heap.size := (by omega)))
    (try (have : w1.heap.size + 1 < wc.heap.size + 1 := (by omega)))
    (try (have : w1.heap.size + 1 < wc.heap.size + 1 + 1 := (by omega)))
    (try (have : w1.heap.size + 1 + 1 < wc.heap.size := (by omega)))
    (try (have : w1.heap.size + 1 + 1 < wc.heap.size + 1 := (by omega)))
    (try (have : w1.heap.size + 1 + 1 < wc.heap.size + 1 + 1 := (by omega)))
    (try (have : w1.heap.size + 1 + 1 + 1 < wc.heap.size := (by omega)))
    (try (have : w1.heap.size + 1 + 1 + 1 < wc.heap.size + 1 := (by omega)))
    (try (have : w1.heap.size + 1 + 1 + 1 < wc.heap.size + 1 + 1 := (by omega)))
    simp only [List.drop_succ_cons, List.drop_zero, List.drop_nil]
    go_wp2
    rw [rounds_succ]
    go_wp2

    refine bodyPost_ret (v := bxV (bxP bd ⟨a0, a1, a2, er, ov, true⟩)) (by simp [results, Tryz.results69, go_sem, bxP, dn, up, offP, *]) rfl ?_
    exact ⟨by rw [HN.out], by repeat' first | with_reducible exact Below.refl _ _ | with_reducible assumption | with_reducible refine Free.Grow.alloc ?_ _ | with_reducible refine Free.Grow.setCell ?_ (by first | omega | (simp; done) | (simp; omega)) _ | with_reducible refine Free.Grow.drew ?_ | with_reducible refine Free.Grow.trans ?_ (by assumption)⟩

end Go.Proofs.YthhhkjbhhjcjoaaGreatDoor
