/- Chapter 2: the reference's nominal place and box. -/
import Derived.Test.Ythpjhpfebjjanaa02u
set_option linter.unusedSimpArgs false
set_option linter.unusedVariables false
namespace Go.Proofs.Ythpjhpfebjjanaa
open Go.RowKit Go.Ob

end Go.Proofs.Ythpjhpfebjjanaa
namespace Go.Ob
structure PtR.Ok (p : PtR) : Prop where
  o0 : 1 ≤ p.den
  o1 : p.den ≤ 20000
  a00 : -4000000000000 ≤ p.a0
  a01 : p.a0 ≤ 4000000000000
  a10 : -4000000000000 ≤ p.a1
  a11 : p.a1 ≤ 4000000000000
  a20 : -4000000000000 ≤ p.a2
  a21 : p.a2 ≤ 4000000000000
  w0 : 0 ≤ p.wrong
  w1 : p.wrong ≤ 4000000000
  b0 : 0 ≤ p.bend
  b1 : p.bend ≤ 2000000000
end Go.Ob
namespace Go.Proofs.Ythpjhpfebjjanaa
open Go.RowKit Go.Ob

theorem ptR_ok {bd : Int} {l : List St} (hR : Right bd l) {t : Int} (h0 : frstT l ≤ t) (h1 : t ≤ lastT l) : (ptR bd l t).Ok := by
  have hk3 := kR_spec hR h0 h1
  have hoka := hR.ok (kR l t) (by omega)
  have hokb := hR.ok (kR l t + 1) (by omega)
  have harc := hR.arc (kR l t + 1) (by omega)
  have hmono := hR.le 0 (kR l t) (by omega) (by omega)
  have hups := hR.up (kR l t) (by omega)
  have hb0 := hR.b0
  have hb1 := hR.b1
  unfold ptR
  generalize kR l t = k at *
  obtain ⟨hk1, hk2, hk3⟩ := hk3
  generalize at_ l k = a at *
  generalize at_ l (k + 1) = b at *
  obtain ⟨p1, p2, p3, p4, p5⟩ := a
  obtain ⟨q1, q2, q3, q4, q5⟩ := b
  obtain ⟨oa1, oa2, oa3, oa4, oa5, oa6, oa7, oa8, oa9, oa10⟩ := hoka
  obtain ⟨ob1, ob2, ob3, ob4, ob5, ob6, ob7, ob8, ob9, ob10⟩ := hokb
  simp only at *
  have m1 := mix_bd (M := 100000000) (by omega) oa3 oa4 ob3 ob4 (s := q1 - p1 - (t - p1)) (t := t - p1) (by omega) (by omega) (by omega)
  have m2 := mix_bd (M := 100000000) (by omega) oa5 oa6 ob5 ob6 (s := q1 - p1 - (t - p1)) (t := t - p1) (by omega) (by omega) (by omega)
  have m3 := mix_bd (M := 100000000) (by omega) oa7 oa8 ob7 ob8 (s := q1 - p1 - (t - p1)) (t := t - p1) (by omega) (by omega) (by omega)
  have m4 := mix_pos oa9 oa10 ob9 ob10 (s := q1 - p1 - (t - p1)) (t := t - p1) (by omega) (by omega) (by omega)
  have m5 := mul_bd (M := 100000) (u := bd) (by omega) hb1 (show 0 ≤ q1 - p1 by omega) (by omega)
  have m6 := Int.mul_nonneg hb0 (show 0 ≤ q1 - p1 by omega)
  unfold prR
  refine ⟨by simp only; omega, by simp only; omega, by simp only; omega, by simp only; omega, by simp only; omega, by simp only; omega, by simp only; omega, by simp only; omega, by simp only; omega, by simp only; omega, ?_, ?_⟩
  · simp only; split <;> omega
  · simp only; split <;> omega

def rNom (p : PtR) : P3 := ⟨rd p.a0 p.den, rd p.a1 p.den, rd p.a2 p.den⟩
def rBx (p : PtR) : Bx := ⟨dn p.a0 (p.wrong + p.bend) p.den, up p.a0 (p.wrong + p.bend) p.den, dn p.a1 (p.wrong + p.bend) p.den, up p.a1 (p.wrong + p.bend) p.den, dn p.a2 (p.wrong + p.bend) p.den, up p.a2 (p.wrong + p.bend) p.den⟩

set_option maxRecDepth 100000 in
set_option maxHeartbeats 4000000 in
theorem rBoxAt_any (nm : ByteArray) (bd t : Int) (b off cap : Nat) (l : List St) (w : World) (hR : Right bd l) (h0 : frstT l ≤ t) (h1 : t ≤ lastT l) (hS : HasSts w b off l) (hbw : b < w.heap.size) :
    Calls Try.prog 31 #[obV nm bd (some ⟨b, off, none⟩) l.length cap, .int .i64 t] w fun e w' => e = .returned (bxV (rBx (ptR bd l t))) ∧ Below w.heap.size w w' := by
  have hok := ptR_ok hR h0 h1
  have HC := Lib.hid (fun w' (hS' : HasSts w' b off l) (hb' : b < w'.heap.size) => pointAt_any nm bd t b off cap l w' hR h0 h1 hS' hb')
  have HS := Lib.hid hS
  clear hS h0 h1 hR
  generalize ptR bd l t = p at *
  obtain ⟨a0, a1, a2, er, bn, ov⟩ := p
  obtain ⟨o0, o1, q00, q01, q10, q11, q20, q21, g0, g1, g2, g3⟩ := hok
  simp only at *
  refine Calls.made fun R HR => ?_
  go_enter Try.func31, Try.ntmps31
  go_wp2_with (go_at_call 86; refine (HC.out _ (HS.out.below (B := w.heap.size) (by repeat' first | with_reducible exact Below.refl _ _ | with_reducible assumption | with_reducible refine Free.Grow.alloc ?_ _ | with_reducible refine Free.Grow.setCell ?_ (by first | omega | (simp; done) | (simp; omega)) _ | with_reducible refine Free.Grow.drew ?_ | with_reducible refine Free.Grow.trans ?_ (by assumption)) hbw) (by simp; omega)).mono ?_; rintro e w1 ⟨rfl, hb1⟩; have hc1 := (Free.cells_of hb1).1; have hf1 := (Free.cells_of hb1).2; have hz1 := hb1.size; (try simp only [World.size_alloc, World.size_setCell, World.size_drew] at hz1); (try (have : w.heap.size < w1.heap.size := (by omega))); (try (have : w.heap.size < w1.heap.size + 1 := (by omega))); (try (have : w.heap.size < w1.heap.size + 1 + 1 := (by omega))); (try (have : w.heap.size + 1 < w1.heap.size := (by omega))); (try (have : w.heap.size + 1 < w1.heap.size + 1 := (by omega))); (try (have : w.heap.size + 1 < w1.heap.size + 1 + 1 := (by omega))); (try (have : w.heap.size + 1 + 1 < w1.heap.size := (by omega))); (try (have : w.heap.size + 1 + 1 < w1.heap.size + 1 := (by omega))); (try (have : w.heap.size + 1 + 1 < w1.heap.size + 1 + 1 := (by omega))); (try (have : w.heap.size + 1 + 1 + 1 < w1.heap.size := (by omega))); (try (have : w.heap.size + 1 + 1 + 1 < w1.heap.size + 1 := (by omega))); (try (have : w.heap.size + 1 + 1 + 1 < w1.heap.size + 1 + 1 := (by omega))))
  refine wp_loop_rounds 4 ?_
  rw [rounds_succ]
  go_wp2
  refine Free.wp_region 21 #[0, 0, 0, 6, 14, 0, 62, 0, 128, 510, 0, 0, 3072, 7168, 0, 31744, 0, 65536, 262142, 524286, 1048575, 2097151] (by kernel_rfl) (by kernel_rfl) ?_
  simp only [List.take_succ_cons, List.take_zero]
  iterate 21
    refine Free.E.q (by rfl) ?_
    apply Exists.intro
    refine ⟨fun u w' hc hb => ?_, ?_⟩
    go_simp
    (try go_ints); (try simp only [Ob.ite_imx, Ob.ite_imn]); first | exact rfl | (go_simp; exact rfl) | ((go_at_call 37; exact Free.Calls.grow (rFloor_any _ _ _ (by omega) (by omega) (by omega) (by omega)))) | ((go_at_call 88; exact Free.Calls.grow (rCeil_any _ _ _ (by omega) (by omega) (by omega) (by omega)))) | (simp only [↓IntWalk.iteOmega]; (try go_simp); exact rfl)
    simp only [Act.put, List.setIfInBounds_toArray, List.set_cons_zero, List.set_cons_succ, List.nil_append, List.cons_append]
  refine Free.E.nil (fun u wa S hF => ?_)
  have hba := hF.below
  clear hF
  have hca := (Free.cells_of hba).1
  have hfa := (Free.cells_of hba).2
  have hza := hba.size
  try simp only [World.size_alloc, World.size_setCell, World.size_drew] at hza
  (try (have : w.heap.size < wa.heap.size := (by omega)))
  (try (have : w.heap.size < wa.heap.size + 1 := (by omega)))
  (try (have : w.heap.size < wa.heap.size + 1 + 1 := (by omega)))
  (try (have : w.heap.size + 1 < wa.heap.size := (by omega)))
  (try (have : w.heap.size + 1 < wa.heap.size + 1 := (by omega)))
  (try (have : w.heap.size + 1 < wa.heap.size + 1 + 1 := (by omega)))
  (try (have : w.heap.size + 1 + 1 < wa.heap.size := (by omega)))
  (try (have : w.heap.size + 1 + 1 < wa.heap.size + 1 := (by omega)))
  (try (have : w.heap.size + 1 + 1 < wa.heap.size + 1 + 1 := (by omega)))
  (try (have : w.heap.size + 1 + 1 + 1 < wa.heap.size := (by omega)))
  (try (have : w.heap.size + 1 + 1 + 1 < wa.heap.size + 1 := (by omega)))
  (try (have : w.heap.size + 1 + 1 + 1 < wa.heap.size + 1 + 1 := (by omega)))
  (try (have : w1.heap.size < wa.heap.size := (by omega)))
  (try (have : w1.heap.size < wa.heap.size + 1 := (by omega)))
  (try (have : w1.heap.size < wa.heap.size + 1 + 1 := (by omega)))
  (try (have : w1.heap.size + 1 < wa.heap.size := (by omega)))
  (try (have : w1.heap.size + 1 < wa.heap.size + 1 := (by omega)))
  (try (have : w1.heap.size + 1 < wa.heap.size + 1 + 1 := (by omega)))
  (try (have : w1.heap.size + 1 + 1 < wa.heap.size := (by omega)))
  (try (have : w1.heap.size + 1 + 1 < wa.heap.size + 1 := (by omega)))
  (try (have : w1.heap.size + 1 + 1 < wa.heap.size + 1 + 1 := (by omega)))
  (try (have : w1.heap.size + 1 + 1 + 1 < wa.heap.size := (by omega)))
  (try (have : w1.heap.size + 1 + 1 + 1 < wa.heap.size + 1 := (by omega)))
  (try (have : w1.heap.size + 1 + 1 + 1 < wa.heap.size + 1 + 1 := (by omega)))
  simp only [List.drop_succ_cons, List.drop_zero, List.drop_nil]
  go_wp2
  rw [rounds_succ]
  go_wp2
  refine Free.wp_region 21 #[0, 0, 0, 6, 14, 0, 62, 0, 128, 510, 0, 0, 3072, 7168, 0, 31744, 0, 65536, 262142, 524286, 1048575, 2097151] (by kernel_rfl) (by kernel_rfl) ?_
  simp only [List.take_succ_cons, List.take_zero]
  iterate 21
    refine Free.E.q (by rfl) ?_
    apply Exists.intro
    refine ⟨fun u w' hc hb => ?_, ?_⟩
    go_simp
    (try go_ints); (try simp only [Ob.ite_imx, Ob.ite_imn]); first | exact rfl | (go_simp; exact rfl) | ((go_at_call 37; exact Free.Calls.grow (rFloor_any _ _ _ (by omega) (by omega) (by omega) (by omega)))) | ((go_at_call 88; exact Free.Calls.grow (rCeil_any _ _ _ (by omega) (by omega) (by omega) (by omega)))) | (simp only [↓IntWalk.iteOmega]; (try go_simp); exact rfl)
    simp only [Act.put, List.setIfInBounds_toArray, List.set_cons_zero, List.set_cons_succ, List.nil_append, List.cons_append]
  refine Free.E.nil (fun u wc S hF => ?_)
  have hbc := hF.below
  clear hF
  have hcc := (Free.cells_of hbc).1
  have hfc := (Free.cells_of hbc).2
  have hzc := hbc.size
  try simp only [World.size_alloc, World.size_setCell, World.size_drew] at hzc
  (try (have : w.heap.size < wc.heap.size := (by omega)))
  (try (have : w.heap.size < wc.heap.size + 1 := (by omega)))
  (try (have : w.heap.size < wc.heap.size + 1 + 1 := (by omega)))
  (try (have : w.heap.size + 1 < wc.heap.size := (by omega)))
  (try (have : w.heap.size + 1 < wc.heap.size + 1 := (by omega)))
  (try (have : w.heap.size + 1 < wc.heap.size + 1 + 1 := (by omega)))
  (try (have : w.heap.size + 1 + 1 < wc.heap.size := (by omega)))
  (try (have : w.heap.size + 1 + 1 < wc.heap.size + 1 := (by omega)))
  (try (have : w.heap.size + 1 + 1 < wc.heap.size + 1 + 1 := (by omega)))
  (try (have : w.heap.size + 1 + 1 + 1 < wc.heap.size := (by omega)))
  (try (have : w.heap.size + 1 + 1 + 1 < wc.heap.size + 1 := (by omega)))
  (try (have : w.heap.size + 1 + 1 + 1 < wc.heap.size + 1 + 1 := (by omega)))
  (try (have : w1.heap.size < wc.heap.size := (by omega)))
  (try (have : w1.heap.size < wc.heap.size + 1 := (by omega)))
  (try (have : w1.heap.size < wc.heap.size + 1 + 1 := (by omega)))
  (try (have : w1.heap.size + 1 < wc.heap.size := (by omega)))
  (try (have : w1.heap.size + 1 < wc.heap.size + 1 := (by omega)))
  (try (have : w1.heap.size + 1 < wc.heap.size + 1 + 1 := (by omega)))
  (try (have : w1.heap.size + 1 + 1 < wc.heap.size := (by omega)))
  (try (have : w1.heap.size + 1 + 1 < wc.heap.size + 1 := (by omega)))
  (try (have : w1.heap.size + 1 + 1 < wc.heap.size + 1 + 1 := (by omega)))
  (try (have : w1.heap.size + 1 + 1 + 1 < wc.heap.size := (by omega)))
  (try (have : w1.heap.size + 1 + 1 + 1 < wc.heap.size + 1 := (by omega)))
  (try (have : w1.heap.size + 1 + 1 + 1 < wc.heap.size + 1 + 1 := (by omega)))
  simp only [List.drop_succ_cons, List.drop_zero, List.drop_nil]
  go_wp2
  rw [rounds_succ]
  go_wp2
  refine Free.wp_region 21 #[0, 0, 0, 6, 14, 0, 62, 0, 128, 510, 0, 0, 3072, 7168, 0, 31744, 0, 65536, 262142, 524286, 1048575, 2097151] (by kernel_rfl) (by kernel_rfl) ?_
  simp only [List.take_succ_cons, List.take_zero]
  iterate 21
    refine Free.E.q (by rfl) ?_
    apply Exists.intro
    refine ⟨fun u w' hc hb => ?_, ?_⟩
    go_simp
    (try go_ints); (try simp only [Ob.ite_imx, Ob.ite_imn]); first | exact rfl | (go_simp; exact rfl) | ((go_at_call 37; exact Free.Calls.grow (rFloor_any _ _ _ (by omega) (by omega) (by omega) (by omega)))) | ((go_at_call 88; exact Free.Calls.grow (rCeil_any _ _ _ (by omega) (by omega) (by omega) (by omega)))) | (simp only [↓IntWalk.iteOmega]; (try go_simp); exact rfl)
    simp only [Act.put, List.setIfInBounds_toArray, List.set_cons_zero, List.set_cons_succ, List.nil_append, List.cons_append]
  refine Free.E.nil (fun u wd S hF => ?_)
  have hbd := hF.below
  clear hF
  have hcd := (Free.cells_of hbd).1
  have hfd := (Free.cells_of hbd).2
  have hzd := hbd.size
  try simp only [World.size_alloc, World.size_setCell, World.size_drew] at hzd
  (try (have : w.heap.size < wd.heap.size := (by omega)))
  (try (have : w.heap.size < wd.heap.size + 1 := (by omega)))
  (try (have : w.heap.size < wd.heap.size + 1 + 1 := (by omega)))
  (try (have : w.heap.size + 1 < wd.heap.size := (by omega)))
  (try (have : w.heap.size + 1 < wd.heap.size + 1 := (by omega)))
  (try (have : w.heap.size + 1 < wd.heap.size + 1 + 1 := (by omega)))
  (try (have : w.heap.size + 1 + 1 < wd.heap.size := (by omega)))
  (try (have : w.heap.size + 1 + 1 < wd.heap.size + 1 := (by omega)))
  (try (have : w.heap.size + 1 + 1 < wd.heap.size + 1 + 1 := (by omega)))
  (try (have : w.heap.size + 1 + 1 + 1 < wd.heap.size := (by omega)))
  (try (have : w.heap.size + 1 + 1 + 1 < wd.heap.size + 1 := (by omega)))
  (try (have : w.heap.size + 1 + 1 + 1 < wd.heap.size + 1 + 1 := (by omega)))
  (try (have : w1.heap.size < wd.heap.size := (by omega)))
  (try (have : w1.heap.size < wd.heap.size + 1 := (by omega)))
  (try (have : w1.heap.size < wd.heap.size + 1 + 1 := (by omega)))
  (try (have : w1.heap.size + 1 < wd.heap.size := (by omega)))
  (try (have : w1.heap.size + 1 < wd.heap.size + 1 := (by omega)))
  (try (have : w1.heap.size + 1 < wd.heap.size + 1 + 1 := (by omega)))
  (try (have : w1.heap.size + 1 + 1 < wd.heap.size := (by omega)))
  (try (have : w1.heap.size + 1 + 1 < wd.heap.size + 1 := (by omega)))
  (try (have : w1.heap.size + 1 + 1 < wd.heap.size + 1 + 1 := (by omega)))
  (try (have : w1.heap.size + 1 + 1 + 1 < wd.heap.size := (by omega)))
  (try (have : w1.heap.size + 1 + 1 + 1 < wd.heap.size + 1 := (by omega)))
  (try (have : w1.heap.size + 1 + 1 + 1 < wd.heap.size + 1 + 1 := (by omega)))
  simp only [List.drop_succ_cons, List.drop_zero, List.drop_nil]
  go_wp2
  rw [rounds_succ]
  repeat (first | go_skip | go_guarded | go_step)
  refine bodyPost_ret (v := bxV (rBx ⟨a0, a1, a2, er, bn, ov⟩)) (by simp [results, Try.results31, go_sem, rBx, dn, up, *]) rfl ?_
  exact HR.out _ (by repeat' first | with_reducible exact Below.refl _ _ | with_reducible assumption | with_reducible refine Free.Grow.alloc ?_ _ | with_reducible refine Free.Grow.setCell ?_ (by first | omega | (simp; done) | (simp; omega)) _ | with_reducible refine Free.Grow.drew ?_ | with_reducible refine Free.Grow.trans ?_ (by assumption))
end Go.Proofs.Ythpjhpfebjjanaa
