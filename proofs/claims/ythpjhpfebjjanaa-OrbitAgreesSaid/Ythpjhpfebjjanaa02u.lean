/- Chapter 2: the reference's point. -/
import Derived.Test.Ythpjhpfebjjanaa02t
import Derived.Test.Ythpjhpfebjjanaa02Spec6
import Derived.Deep.DeepCutAuto
import Derived.Deep.CutBlock
set_option linter.unusedSimpArgs false
set_option linter.unusedVariables false
namespace Go.Proofs.Ythpjhpfebjjanaa
open Go.RowKit Go.Ob

set_option maxRecDepth 100000 in
set_option maxHeartbeats 1000000 in
theorem Err_any (nm : ByteArray) (bd : Int) (a : Option Addr) (cap : Nat) (l : List St) (w : World) (hO : OrbIn w nm a cap l) :
    Calls Try.prog 20 #[obV nm bd a l.length cap] w fun e w' => e = .returned (.int .i64 (orbE nm.data.toList bd l).2) ∧ Below w.heap.size w w' := by
  have HC := Lib.hid (fun w' (h : OrbIn w' nm a cap l) => rCheckOrbit_any nm bd a cap l w' h)
  have HO := Lib.hid hO
  clear hO
  generalize orbE nm.data.toList bd l = q at *
  obtain ⟨q1, q2⟩ := q
  refine Calls.made fun R HR => ?_
  go_enter Try.func20, Try.ntmps20
  go_wp2_with (go_at_call 48; refine (HC.out _ (HO.out.below (by repeat' first | with_reducible exact Below.refl _ _ | with_reducible assumption | with_reducible refine Free.Grow.alloc ?_ _ | with_reducible refine Free.Grow.setCell ?_ (by first | omega | (simp; done) | (simp; omega)) _ | with_reducible refine Free.Grow.drew ?_ | with_reducible refine Free.Grow.trans ?_ (by assumption)))).mono ?_; rintro e w1 ⟨rfl, hb1⟩; have hc1 := (Free.cells_of hb1).1; have hf1 := (Free.cells_of hb1).2; have hz1 := hb1.size; (try simp only [World.size_alloc, World.size_setCell, World.size_drew] at hz1); (try (have : w.heap.size < w1.heap.size := (by omega))); (try (have : w.heap.size < w1.heap.size + 1 := (by omega))); (try (have : w.heap.size < w1.heap.size + 1 + 1 := (by omega))); (try (have : w.heap.size + 1 < w1.heap.size := (by omega))); (try (have : w.heap.size + 1 < w1.heap.size + 1 := (by omega))); (try (have : w.heap.size + 1 < w1.heap.size + 1 + 1 := (by omega))); (try (have : w.heap.size + 1 + 1 < w1.heap.size := (by omega))); (try (have : w.heap.size + 1 + 1 < w1.heap.size + 1 := (by omega))); (try (have : w.heap.size + 1 + 1 < w1.heap.size + 1 + 1 := (by omega))); (try (have : w.heap.size + 1 + 1 + 1 < w1.heap.size := (by omega))); (try (have : w.heap.size + 1 + 1 + 1 < w1.heap.size + 1 := (by omega))); (try (have : w.heap.size + 1 + 1 + 1 < w1.heap.size + 1 + 1 := (by omega))))
  first | (go_ret; exact HR.out _ (by repeat' first | with_reducible exact Below.refl _ _ | with_reducible assumption | with_reducible refine Free.Grow.alloc ?_ _ | with_reducible refine Free.Grow.setCell ?_ (by first | omega | (simp; done) | (simp; omega)) _ | with_reducible refine Free.Grow.drew ?_ | with_reducible refine Free.Grow.trans ?_ (by assumption))) | exact HR.out _ (by repeat' first | with_reducible exact Below.refl _ _ | with_reducible assumption | with_reducible refine Free.Grow.alloc ?_ _ | with_reducible refine Free.Grow.setCell ?_ (by first | omega | (simp; done) | (simp; omega)) _ | with_reducible refine Free.Grow.drew ?_ | with_reducible refine Free.Grow.trans ?_ (by assumption))

abbrev prV (p : PtR) : Value := .agg #[.int .i64 p.a0, .int .i64 p.a1, .int .i64 p.a2, .int .i64 p.wrong, .int .i64 p.bend, .int .i64 p.den]

set_option maxRecDepth 100000 in
set_option maxHeartbeats 8000000 in
theorem pointAt_any (nm : ByteArray) (bd t : Int) (b off cap : Nat) (l : List St) (w : World) (hR : Right bd l) (h0 : frstT l ≤ t) (h1 : t ≤ lastT l) (hS : HasSts w b off l) (hbw : b < w.heap.size) :
    Calls Try.prog 86 #[obV nm bd (some ⟨b, off, none⟩) l.length cap, .int .i64 t] w fun e w' => e = .returned (prV (ptR bd l t)) ∧ Below w.heap.size w w' := by
  have hk3 := kR_spec hR h0 h1
  have hoka := hR.ok (kR l t) (by omega)
  have hokb := hR.ok (kR l t + 1) (by omega)
  have harc := hR.arc (kR l t + 1) (by omega)
  have hmono := hR.le 0 (kR l t) (by omega) (by omega)
  have hups := hR.up (kR l t) (by omega)
  have hb0 := hR.b0
  have hb1 := hR.b1
  have hn2 := hR.n2
  have hn40 := hR.n40
  have HS := Lib.hid hS
  have hpt : ptR bd l t = prR bd (at_ l (kR l t)) (at_ l (kR l t + 1)) t := rfl
  rw [hpt]
  clear hpt hS h0 h1 hR
  refine Calls.made fun R HR => ?_
  have HK : Hid (kUp l t (l.length - 0) 0 = kR l t) := rfl
  generalize kR l t = kk at *
  obtain ⟨hk31, hk32, hk33⟩ := hk3
  obtain ⟨c1, c2, c3, c4, c5⟩ := HS.out (kk + 1) hk31
  obtain ⟨d1, d2, d3, d4, d5⟩ := HS.out kk (by omega)
  have hn2' : (2 : Int) ≤ l.length := by omega
  have hn40' : (l.length : Int) ≤ 40 := by omega
  generalize at_ l kk = sa at *
  generalize at_ l (kk + 1) = sb at *
  obtain ⟨p1, p2, p3, p4, p5⟩ := sa
  obtain ⟨q1, q2, q3, q4, q5⟩ := sb
  obtain ⟨oa1, oa2, oa3, oa4, oa5, oa6, oa7, oa8, oa9, oa10⟩ := hoka
  obtain ⟨ob1, ob2, ob3, ob4, ob5, ob6, ob7, ob8, ob9, ob10⟩ := hokb
  simp only at *
  have hW0 : 0 ≤ q1 - p1 - (t - p1) := by omega
  have hW1 : q1 - p1 - (t - p1) ≤ 20000 := by omega
  have hG0 : 0 ≤ t - p1 := by omega
  have hG1 : t - p1 ≤ 20000 := by omega
  have hkk1 : (kk : Int) + 1 < l.length := by omega
  have hkk2 : (kk : Int) < l.length := by omega
  have hkk3 : (kk : Int) ≤ 40 := by omega
  obtain ⟨m1, m2⟩ := mul_bd (M := 100000000) oa3 oa4 hW0 hW1
  obtain ⟨m3, m4⟩ := mul_bd (M := 100000000) oa5 oa6 hW0 hW1
  obtain ⟨m5, m6⟩ := mul_bd (M := 100000000) oa7 oa8 hW0 hW1
  obtain ⟨m7, m8⟩ := mul_bd (M := 100000) (by omega) oa10 hW0 hW1
  obtain ⟨n1, n2⟩ := mul_bd (M := 100000000) ob3 ob4 hG0 hG1
  obtain ⟨n3, n4⟩ := mul_bd (M := 100000000) ob5 ob6 hG0 hG1
  obtain ⟨n5, n6⟩ := mul_bd (M := 100000000) ob7 ob8 hG0 hG1
  obtain ⟨n7, n8⟩ := mul_bd (M := 100000) (by omega) ob10 hG0 hG1
  obtain ⟨l1, l2⟩ := mul_bd (M := 100000) (u := bd) (by omega) hb1 (show 0 ≤ q1 - p1 by omega) (by omega)
  simp only [Int.reduceMul, Int.reduceNeg] at m1 m2 m3 m4 m5 m6 m7 m8 n1 n2 n3 n4 n5 n6 n7 n8 l1 l2
  have : b < w.heap.size := (by omega); have : b < w.heap.size + 1 := (by omega); have : b < w.heap.size + 1 + 1 := (by omega)
  go_enter Try.func86, Try.ntmps86
  go_upto_block 0 with fail
  go_cut [5] (fun s5 wx => s5 = .int .i64 kk ∧ wx = (w.alloc (.cells #[.string nm, .int .i64 bd, .slice (some ⟨b, off, none⟩) l.length cap] 24)).alloc (.cells #[.int .i64 0, .int .i64 0, .int .i64 0, .int .i64 0, .int .i64 0, .int .i64 0] 140))
  case first =>
    go_wp2
    go_loop [5] (fun i => ∃ k : Nat, k + 2 ≤ l.length ∧ i = .int .i64 k ∧ kUp l t (l.length - k) k = kk) (fun i => l.length - (intOf i).toNat)
    case atStart => exact ⟨0, by omega, rfl, HK.out⟩
    case round =>
      obtain ⟨k, hk, rfl, hku⟩ := hrel
      have HU := Lib.hid hku
      clear hku
      clear c1 c2 c3 c4 c5 d1 d2 d3 d4 d5
      clear m1 m2 m3 m4 m5 m6 m7 m8 n1 n2 n3 n4 n5 n6 n7 n8 l1 l2
      have hkb : (k : Int) ≤ 40 := by omega
      by_cases hc1 : k + 2 < l.length
      · have hc1' : (k : Int) + 2 < l.length := by omega
        obtain ⟨e1, -⟩ := HS.out (k + 1) (by omega)
        by_cases hc2 : (at_ l (k + 1)).t ≤ t
        · go_wp2
          go_round
          case measure => simp [intOf]; omega
          case rel => exact ⟨k + 1, by omega, by go_num, by rw [← kUp_go hc1 hc2]; exact HU.out⟩
        · have hkk := Lib.hid (show k = kk by rw [← HU.out, kUp_stop (fun h => hc2 h.2)])
          go_wp2
          go_meet
          case rel => exact ⟨by rw [hkk.out], rfl⟩
      · have hkk := Lib.hid (show k = kk by rw [← HU.out, kUp_stop (fun h => hc1 h.1)])
        have hc1' : ¬ (k : Int) + 2 < l.length := by omega
        go_wp2
        go_meet
        case rel => exact ⟨by rw [hkk.out], rfl⟩
  case rest =>
    obtain ⟨rfl, rfl⟩ := hcut
    clear HK
    go_wp2
    refine Free.wp_region 15 #[0, 1, 0, 7, 15, 0, 32, 0, 128, 480, 992, 0, 0, 6175, 16383] (by kernel_rfl) (by kernel_rfl) ?_
    simp only [List.take_succ_cons, List.take_zero]
    iterate 11
      refine Free.E.q (by rfl) ?_
      apply Exists.intro
      refine ⟨fun u w' hc hb => ?_, ?_⟩
      go_simp
      (try go_ints); (try simp only [Ob.ite_imx, Ob.ite_imn]); first | exact rfl | (go_simp; exact rfl) | (simp only [↓IntWalk.iteOmega]; (try go_simp); exact rfl)
      simp only [Act.put, List.setIfInBounds_toArray, List.set_cons_zero, List.set_cons_succ, List.nil_append, List.cons_append]
    refine Free.E.new (z := #[.int .i64 0, .int .i64 0, .int .i64 0, .int .i64 0, .int .i64 0]) (by rfl) rfl (by kernel_rfl) ?_
    simp only [Act.put, List.setIfInBounds_toArray, List.set_cons_zero, List.set_cons_succ, List.nil_append, List.cons_append]
    refine Free.E.new (z := #[.int .i64 0, .int .i64 0, .int .i64 0, .int .i64 0, .int .i64 0]) (by rfl) rfl (by kernel_rfl) ?_
    simp only [Act.put, List.setIfInBounds_toArray, List.set_cons_zero, List.set_cons_succ, List.nil_append, List.cons_append]
    refine Free.E.init (k := 11) (by rfl) (by rfl) rfl rfl (by rfl) (by decide) (by rfl) (fun _ => rfl) (fun _ => rfl) (by kernel_rfl) rfl rfl (by rfl) ?_
    simp only [List.nil_append, List.cons_append]
    refine Free.E.init (k := 12) (by rfl) (by rfl) rfl rfl (by rfl) (by decide) (by rfl) (fun _ => rfl) (fun _ => rfl) (by kernel_rfl) rfl rfl (by rfl) ?_
    simp only [List.nil_append, List.cons_append]
    refine Free.E.nil (fun u w4 S hF => ?_)
    have hb4 := hF.below
    obtain ⟨b4_11, hu4_11, hlo4_11, hhi4_11, -, hk4_11⟩ := hF.allocs 11 _ _ rfl
    simp only [Free.final, List.findSome?, reduceIte, Option.getD_some, Option.getD_none, Nat.reduceEqDiff, Value.cells] at hk4_11
    obtain ⟨b4_12, hu4_12, hlo4_12, hhi4_12, -, hk4_12⟩ := hF.allocs 12 _ _ rfl
    simp only [Free.final, List.findSome?, reduceIte, Option.getD_some, Option.getD_none, Nat.reduceEqDiff, Value.cells] at hk4_12
    have hne4_11_12 := hF.apart 11 12 _ _ _ _ rfl rfl (by decide)
    rw [hu4_11, hu4_12] at hne4_11_12
    replace hne4_11_12 := Free.ptr_ne hne4_11_12
    clear hF
    have hc4 := (Free.cells_of hb4).1
    have hf4 := (Free.cells_of hb4).2
    have hz4 := hb4.size
    simp only [hu4_11, hu4_12]
    have hcb4_11 := Free.cell_of_blk hk4_11
    have hfb4_11 := Free.frozen_of_blk hk4_11
    clear hu4_11 hk4_11
    have hcb4_12 := Free.cell_of_blk hk4_12
    have hfb4_12 := Free.frozen_of_blk hk4_12
    clear hu4_12 hk4_12
    try simp only [World.size_alloc, World.size_setCell, World.size_drew] at hz4 hlo4_11 hlo4_12
    (try (have : w.heap.size < w4.heap.size := (by omega)))
    (try (have : w.heap.size < w4.heap.size + 1 := (by omega)))
    (try (have : w.heap.size < w4.heap.size + 1 + 1 := (by omega)))
    (try (have : w.heap.size + 1 < w4.heap.size := (by omega)))
    (try (have : w.heap.size + 1 < w4.heap.size + 1 := (by omega)))
    (try (have : w.heap.size + 1 < w4.heap.size + 1 + 1 := (by omega)))
    (try (have : w.heap.size + 1 + 1 < w4.heap.size := (by omega)))
    (try (have : w.heap.size + 1 + 1 < w4.heap.size + 1 := (by omega)))
    (try (have : w.heap.size + 1 + 1 < w4.heap.size + 1 + 1 := (by omega)))
    (try (have : w.heap.size + 1 + 1 + 1 < w4.heap.size := (by omega)))
    (try (have : w.heap.size + 1 + 1 + 1 < w4.heap.size + 1 := (by omega)))
    (try (have : w.heap.size + 1 + 1 + 1 < w4.heap.size + 1 + 1 := (by omega)))
    (try (have : b < w4.heap.size := (by omega)))
    (try (have : b < w4.heap.size + 1 := (by omega)))
    (try (have : b < w4.heap.size + 1 + 1 := (by omega)))
    simp only [List.drop_succ_cons, List.drop_zero, List.drop_nil]
    go_wp2
    refine Free.wp_region 11 #[0, 1, 0, 4, 15, 0, 0, 64, 224, 31, 1023] (by kernel_rfl) (by kernel_rfl) ?_
    simp only [List.take_succ_cons, List.take_zero]
    iterate 11
      refine Free.E.q (by rfl) ?_
      apply Exists.intro
      refine ⟨fun u w' hc hb => ?_, ?_⟩
      go_simp
      (try go_ints); (try simp only [Ob.ite_imx, Ob.ite_imn]); first | exact rfl | (go_simp; exact rfl) | (simp only [↓IntWalk.iteOmega]; (try go_simp); exact rfl)
      simp only [Act.put, List.setIfInBounds_toArray, List.set_cons_zero, List.set_cons_succ, List.nil_append, List.cons_append]
    refine Free.E.nil (fun u w5 S hF => ?_)
    have hb5 := hF.below
    clear hF
    have hc5 := (Free.cells_of hb5).1
    have hf5 := (Free.cells_of hb5).2
    have hz5 := hb5.size
    try simp only [World.size_alloc, World.size_setCell, World.size_drew] at hz5
    (try (have : w.heap.size < w5.heap.size := (by omega)))
    (try (have : w.heap.size < w5.heap.size + 1 := (by omega)))
    (try (have : w.heap.size < w5.heap.size + 1 + 1 := (by omega)))
    (try (have : w.heap.size + 1 < w5.heap.size := (by omega)))
    (try (have : w.heap.size + 1 < w5.heap.size + 1 := (by omega)))
    (try (have : w.heap.size + 1 < w5.heap.size + 1 + 1 := (by omega)))
    (try (have : w.heap.size + 1 + 1 < w5.heap.size := (by omega)))
    (try (have : w.heap.size + 1 + 1 < w5.heap.size + 1 := (by omega)))
    (try (have : w.heap.size + 1 + 1 < w5.heap.size + 1 + 1 := (by omega)))
    (try (have : w.heap.size + 1 + 1 + 1 < w5.heap.size := (by omega)))
    (try (have : w.heap.size + 1 + 1 + 1 < w5.heap.size + 1 := (by omega)))
    (try (have : w.heap.size + 1 + 1 + 1 < w5.heap.size + 1 + 1 := (by omega)))
    (try (have : w4.heap.size < w5.heap.size := (by omega)))
    (try (have : w4.heap.size < w5.heap.size + 1 := (by omega)))
    (try (have : w4.heap.size < w5.heap.size + 1 + 1 := (by omega)))
    (try (have : w4.heap.size + 1 < w5.heap.size := (by omega)))
    (try (have : w4.heap.size + 1 < w5.heap.size + 1 := (by omega)))
    (try (have : w4.heap.size + 1 < w5.heap.size + 1 + 1 := (by omega)))
    (try (have : w4.heap.size + 1 + 1 < w5.heap.size := (by omega)))
    (try (have : w4.heap.size + 1 + 1 < w5.heap.size + 1 := (by omega)))
    (try (have : w4.heap.size + 1 + 1 < w5.heap.size + 1 + 1 := (by omega)))
    (try (have : w4.heap.size + 1 + 1 + 1 < w5.heap.size := (by omega)))
    (try (have : w4.heap.size + 1 + 1 + 1 < w5.heap.size + 1 := (by omega)))
    (try (have : w4.heap.size + 1 + 1 + 1 < w5.heap.size + 1 + 1 := (by omega)))
    (try (have : b < w5.heap.size := (by omega)))
    (try (have : b < w5.heap.size + 1 := (by omega)))
    (try (have : b < w5.heap.size + 1 + 1 := (by omega)))
    (try (have : b4_11 < w5.heap.size := (by omega)))
    (try (have : b4_11 < w5.heap.size + 1 := (by omega)))
    (try (have : b4_11 < w5.heap.size + 1 + 1 := (by omega)))
    (try (have : b4_12 < w5.heap.size := (by omega)))
    (try (have : b4_12 < w5.heap.size + 1 := (by omega)))
    (try (have : b4_12 < w5.heap.size + 1 + 1 := (by omega)))
    simp only [List.drop_succ_cons, List.drop_zero, List.drop_nil]
    go_wp2
    refine Free.wp_region 10 #[0, 1, 3, 0, 8, 31, 0, 0, 255, 511] (by kernel_rfl) (by kernel_rfl) ?_
    simp only [List.take_succ_cons, List.take_zero]
    iterate 6
      refine Free.E.q (by rfl) ?_
      apply Exists.intro
      refine ⟨fun u w' hc hb => ?_, ?_⟩
      go_simp
      (try go_ints); (try simp only [Ob.ite_imx, Ob.ite_imn]); first | exact rfl | (go_simp; exact rfl) | ((go_at_call 96; exact coordinates_any _ _ _ _)) | (simp only [↓IntWalk.iteOmega]; (try go_simp); exact rfl)
      simp only [Act.put, List.setIfInBounds_toArray, List.set_cons_zero, List.set_cons_succ, List.nil_append, List.cons_append]
    refine Free.E.new (z := #[.int .i64 0, .int .i64 0, .int .i64 0]) (by rfl) rfl (by kernel_rfl) ?_
    simp only [Act.put, List.setIfInBounds_toArray, List.set_cons_zero, List.set_cons_succ, List.nil_append, List.cons_append]
    refine Free.E.new (z := #[.int .i64 0, .int .i64 0, .int .i64 0]) (by rfl) rfl (by kernel_rfl) ?_
    simp only [Act.put, List.setIfInBounds_toArray, List.set_cons_zero, List.set_cons_succ, List.nil_append, List.cons_append]
    refine Free.E.init (k := 6) (by rfl) (by rfl) rfl rfl (by rfl) (by decide) (by rfl) (fun _ => rfl) (fun _ => rfl) (by kernel_rfl) rfl rfl (by rfl) ?_
    simp only [List.nil_append, List.cons_append]
    refine Free.E.init (k := 7) (by rfl) (by rfl) rfl rfl (by rfl) (by decide) (by rfl) (fun _ => rfl) (fun _ => rfl) (by kernel_rfl) rfl rfl (by rfl) ?_
    simp only [List.nil_append, List.cons_append]
    refine Free.E.nil (fun u w7 S hF => ?_)
    have hb7 := hF.below
    obtain ⟨b7_6, hu7_6, hlo7_6, hhi7_6, -, hk7_6⟩ := hF.allocs 6 _ _ rfl
    simp only [Free.final, List.findSome?, reduceIte, Option.getD_some, Option.getD_none, Nat.reduceEqDiff, Value.cells] at hk7_6
    obtain ⟨b7_7, hu7_7, hlo7_7, hhi7_7, -, hk7_7⟩ := hF.allocs 7 _ _ rfl
    simp only [Free.final, List.findSome?, reduceIte, Option.getD_some, Option.getD_none, Nat.reduceEqDiff, Value.cells] at hk7_7
    have hne7_6_7 := hF.apart 6 7 _ _ _ _ rfl rfl (by decide)
    rw [hu7_6, hu7_7] at hne7_6_7
    replace hne7_6_7 := Free.ptr_ne hne7_6_7
    clear hF
    have hc7 := (Free.cells_of hb7).1
    have hf7 := (Free.cells_of hb7).2
    have hz7 := hb7.size
    simp only [hu7_6, hu7_7]
    have hcb7_6 := Free.cell_of_blk hk7_6
    have hfb7_6 := Free.frozen_of_blk hk7_6
    clear hu7_6 hk7_6
    have hcb7_7 := Free.cell_of_blk hk7_7
    have hfb7_7 := Free.frozen_of_blk hk7_7
    clear hu7_7 hk7_7
    try simp only [World.size_alloc, World.size_setCell, World.size_drew] at hz7 hlo7_6 hlo7_7
    (try (have : w.heap.size < w7.heap.size := (by omega)))
    (try (have : w.heap.size < w7.heap.size + 1 := (by omega)))
    (try (have : w.heap.size < w7.heap.size + 1 + 1 := (by omega)))
    (try (have : w.heap.size + 1 < w7.heap.size := (by omega)))
    (try (have : w.heap.size + 1 < w7.heap.size + 1 := (by omega)))
    (try (have : w.heap.size + 1 < w7.heap.size + 1 + 1 := (by omega)))
    (try (have : w.heap.size + 1 + 1 < w7.heap.size := (by omega)))
    (try (have : w.heap.size + 1 + 1 < w7.heap.size + 1 := (by omega)))
    (try (have : w.heap.size + 1 + 1 < w7.heap.size + 1 + 1 := (by omega)))
    (try (have : w.heap.size + 1 + 1 + 1 < w7.heap.size := (by omega)))
    (try (have : w.heap.size + 1 + 1 + 1 < w7.heap.size + 1 := (by omega)))
    (try (have : w.heap.size + 1 + 1 + 1 < w7.heap.size + 1 + 1 := (by omega)))
    (try (have : w4.heap.size < w7.heap.size := (by omega)))
    (try (have : w4.heap.size < w7.heap.size + 1 := (by omega)))
    (try (have : w4.heap.size < w7.heap.size + 1 + 1 := (by omega)))
    (try (have : w4.heap.size + 1 < w7.heap.size := (by omega)))
    (try (have : w4.heap.size + 1 < w7.heap.size + 1 := (by omega)))
    (try (have : w4.heap.size + 1 < w7.heap.size + 1 + 1 := (by omega)))
    (try (have : w4.heap.size + 1 + 1 < w7.heap.size := (by omega)))
    (try (have : w4.heap.size + 1 + 1 < w7.heap.size + 1 := (by omega)))
    (try (have : w4.heap.size + 1 + 1 < w7.heap.size + 1 + 1 := (by omega)))
    (try (have : w4.heap.size + 1 + 1 + 1 < w7.heap.size := (by omega)))
    (try (have : w4.heap.size + 1 + 1 + 1 < w7.heap.size + 1 := (by omega)))
    (try (have : w4.heap.size + 1 + 1 + 1 < w7.heap.size + 1 + 1 := (by omega)))
    (try (have : w5.heap.size < w7.heap.size := (by omega)))
    (try (have : w5.heap.size < w7.heap.size + 1 := (by omega)))
    (try (have : w5.heap.size < w7.heap.size + 1 + 1 := (by omega)))
    (try (have : w5.heap.size + 1 < w7.heap.size := (by omega)))
    (try (have : w5.heap.size + 1 < w7.heap.size + 1 := (by omega)))
    (try (have : w5.heap.size + 1 < w7.heap.size + 1 + 1 := (by omega)))
    (try (have : w5.heap.size + 1 + 1 < w7.heap.size := (by omega)))
    (try (have : w5.heap.size + 1 + 1 < w7.heap.size + 1 := (by omega)))
    (try (have : w5.heap.size + 1 + 1 < w7.heap.size + 1 + 1 := (by omega)))
    (try (have : w5.heap.size + 1 + 1 + 1 < w7.heap.size := (by omega)))
    (try (have : w5.heap.size + 1 + 1 + 1 < w7.heap.size + 1 := (by omega)))
    (try (have : w5.heap.size + 1 + 1 + 1 < w7.heap.size + 1 + 1 := (by omega)))
    (try (have : b < w7.heap.size := (by omega)))
    (try (have : b < w7.heap.size + 1 := (by omega)))
    (try (have : b < w7.heap.size + 1 + 1 := (by omega)))
    (try (have : b4_11 < w7.heap.size := (by omega)))
    (try (have : b4_11 < w7.heap.size + 1 := (by omega)))
    (try (have : b4_11 < w7.heap.size + 1 + 1 := (by omega)))
    (try (have : b4_12 < w7.heap.size := (by omega)))
    (try (have : b4_12 < w7.heap.size + 1 := (by omega)))
    (try (have : b4_12 < w7.heap.size + 1 + 1 := (by omega)))
    simp only [List.drop_succ_cons, List.drop_zero, List.drop_nil]
    go_wp2
    have : b7_6 ≠ w5.heap.size := by omega
    have : w5.heap.size ≠ b7_6 := by omega
    have : b7_7 ≠ w5.heap.size := by omega
    have : w5.heap.size ≠ b7_7 := by omega
    refine wp_loop_rounds 4 ?_
    rw [rounds_succ]
    go_wp2
    refine Free.wp_region 16 #[0, 0, 2, 6, 0, 0, 48, 126, 0, 256, 768, 0, 3840, 8190, 0, 32767, 65535] (by kernel_rfl) (by kernel_rfl) ?_
    simp only [List.take_succ_cons, List.take_zero]
    iterate 16
      refine Free.E.q (by rfl) ?_
      apply Exists.intro
      refine ⟨fun u w' hc hb => ?_, ?_⟩
      go_simp
      (try go_ints); (try simp only [Ob.ite_imx, Ob.ite_imn]); first | exact rfl | (go_simp; exact rfl) | (simp only [↓IntWalk.iteOmega]; (try go_simp); exact rfl)
      simp only [Act.put, List.setIfInBounds_toArray, List.set_cons_zero, List.set_cons_succ, List.nil_append, List.cons_append]
    refine Free.E.nil (fun u wa S hF => ?_)
    have hba := hF.below
    clear hF
    have hca := (Free.cells_of hba).1
    have hfa := (Free.cells_of hba).2
    have hza := hba.size
    try simp only [World.size_alloc, World.size_setCell, World.size_drew] at hza
    (try (have : w.heap.size < wa.heap.size := (by omega)))
    (try (have : w.heap.size < wa.heap.size + 1 := (by omega)))
    (try (have : w.heap.size < wa.heap.size + 1 + 1 := (by omega)))
    (try (have : w.heap.size + 1 < wa.heap.size := (by omega)))
    (try (have : w.heap.size + 1 < wa.heap.size + 1 := (by omega)))
    (try (have : w.heap.size + 1 < wa.heap.size + 1 + 1 := (by omega)))
    (try (have : w.heap.size + 1 + 1 < wa.heap.size := (by omega)))
    (try (have : w.heap.size + 1 + 1 < wa.heap.size + 1 := (by omega)))
    (try (have : w.heap.size + 1 + 1 < wa.heap.size + 1 + 1 := (by omega)))
    (try (have : w.heap.size + 1 + 1 + 1 < wa.heap.size := (by omega)))
    (try (have : w.heap.size + 1 + 1 + 1 < wa.heap.size + 1 := (by omega)))
    (try (have : w.heap.size + 1 + 1 + 1 < wa.heap.size + 1 + 1 := (by omega)))
    (try (have : w4.heap.size < wa.heap.size := (by omega)))
    (try (have : w4.heap.size < wa.heap.size + 1 := (by omega)))
    (try (have : w4.heap.size < wa.heap.size + 1 + 1 := (by omega)))
    (try (have : w4.heap.size + 1 < wa.heap.size := (by omega)))
    (try (have : w4.heap.size + 1 < wa.heap.size + 1 := (by omega)))
    (try (have : w4.heap.size + 1 < wa.heap.size + 1 + 1 := (by omega)))
    (try (have : w4.heap.size + 1 + 1 < wa.heap.size := (by omega)))
    (try (have : w4.heap.size + 1 + 1 < wa.heap.size + 1 := (by omega)))
    (try (have : w4.heap.size + 1 + 1 < wa.heap.size + 1 + 1 := (by omega)))
    (try (have : w4.heap.size + 1 + 1 + 1 < wa.heap.size := (by omega)))
    (try (have : w4.heap.size + 1 + 1 + 1 < wa.heap.size + 1 := (by omega)))
    (try (have : w4.heap.size + 1 + 1 + 1 < wa.heap.size + 1 + 1 := (by omega)))
    (try (have : w5.heap.size < wa.heap.size := (by omega)))
    (try (have : w5.heap.size < wa.heap.size + 1 := (by omega)))
    (try (have : w5.heap.size < wa.heap.size + 1 + 1 := (by omega)))
    (try (have : w5.heap.size + 1 < wa.heap.size := (by omega)))
    (try (have : w5.heap.size + 1 < wa.heap.size + 1 := (by omega)))
    (try (have : w5.heap.size + 1 < wa.heap.size + 1 + 1 := (by omega)))
    (try (have : w5.heap.size + 1 + 1 < wa.heap.size := (by omega)))
    (try (have : w5.heap.size + 1 + 1 < wa.heap.size + 1 := (by omega)))
    (try (have : w5.heap.size + 1 + 1 < wa.heap.size + 1 + 1 := (by omega)))
    (try (have : w5.heap.size + 1 + 1 + 1 < wa.heap.size := (by omega)))
    (try (have : w5.heap.size + 1 + 1 + 1 < wa.heap.size + 1 := (by omega)))
    (try (have : w5.heap.size + 1 + 1 + 1 < wa.heap.size + 1 + 1 := (by omega)))
    (try (have : b < wa.heap.size := (by omega)))
    (try (have : b < wa.heap.size + 1 := (by omega)))
    (try (have : b < wa.heap.size + 1 + 1 := (by omega)))
    (try (have : b4_11 < wa.heap.size := (by omega)))
    (try (have : b4_11 < wa.heap.size + 1 := (by omega)))
    (try (have : b4_11 < wa.heap.size + 1 + 1 := (by omega)))
    (try (have : b4_12 < wa.heap.size := (by omega)))
    (try (have : b4_12 < wa.heap.size + 1 := (by omega)))
    (try (have : b4_12 < wa.heap.size + 1 + 1 := (by omega)))
    (try (have : b7_6 < wa.heap.size := (by omega)))
    (try (have : b7_6 < wa.heap.size + 1 := (by omega)))
    (try (have : b7_6 < wa.heap.size + 1 + 1 := (by omega)))
    (try (have : b7_7 < wa.heap.size := (by omega)))
    (try (have : b7_7 < wa.heap.size + 1 := (by omega)))
    (try (have : b7_7 < wa.heap.size + 1 + 1 := (by omega)))
    simp only [List.drop_succ_cons, List.drop_zero, List.drop_nil]
    go_wp2
    rw [rounds_succ]
    go_wp2
    refine Free.wp_region 16 #[0, 0, 2, 6, 0, 0, 48, 126, 0, 256, 768, 0, 3840, 8190, 0, 32767, 65535] (by kernel_rfl) (by kernel_rfl) ?_
    simp only [List.take_succ_cons, List.take_zero]
    iterate 16
      refine Free.E.q (by rfl) ?_
      apply Exists.intro
      refine ⟨fun u w' hc hb => ?_, ?_⟩
      go_simp
      (try go_ints); (try simp only [Ob.ite_imx, Ob.ite_imn]); first | exact rfl | (go_simp; exact rfl) | (simp only [↓IntWalk.iteOmega]; (try go_simp); exact rfl)
      simp only [Act.put, List.setIfInBounds_toArray, List.set_cons_zero, List.set_cons_succ, List.nil_append, List.cons_append]
    refine Free.E.nil (fun u wc S hF => ?_)
    have hbc := hF.below
    clear hF
    have hcc := (Free.cells_of hbc).1
    have hfc := (Free.cells_of hbc).2
    have hzc := hbc.size
    try simp only [World.size_alloc, World.size_setCell, World.size_drew] at hzc
    (try (have : w.heap.size < wc.heap.size := (by omega)))
    (try (have : w.heap.size < wc.heap.size + 1 := (by omega)))
    (try (have : w.heap.size < wc.heap.size + 1 + 1 := (by omega)))
    (try (have : w.heap.size + 1 < wc.heap.size := (by omega)))
    (try (have : w.heap.size + 1 < wc.heap.size + 1 := (by omega)))
    (try (have : w.heap.size + 1 < wc.heap.size + 1 + 1 := (by omega)))
    (try (have : w.heap.size + 1 + 1 < wc.heap.size := (by omega)))
    (try (have : w.heap.size + 1 + 1 < wc.heap.size + 1 := (by omega)))
    (try (have : w.heap.size + 1 + 1 < wc.heap.size + 1 + 1 := (by omega)))
    (try (have : w.heap.size + 1 + 1 + 1 < wc.heap.size := (by omega)))
    (try (have : w.heap.size + 1 + 1 + 1 < wc.heap.size + 1 := (by omega)))
    (try (have : w.heap.size + 1 + 1 + 1 < wc.heap.size + 1 + 1 := (by omega)))
    (try (have : w4.heap.size < wc.heap.size := (by omega)))
    (try (have : w4.heap.size < wc.heap.size + 1 := (by omega)))
    (try (have : w4.heap.size < wc.heap.size + 1 + 1 := (by omega)))
    (try (have : w4.heap.size + 1 < wc.heap.size := (by omega)))
    (try (have : w4.heap.size + 1 < wc.heap.size + 1 := (by omega)))
    (try (have : w4.heap.size + 1 < wc.heap.size + 1 + 1 := (by omega)))
    (try (have : w4.heap.size + 1 + 1 < wc.heap.size := (by omega)))
    (try (have : w4.heap.size + 1 + 1 < wc.heap.size + 1 := (by omega)))
    (try (have : w4.heap.size + 1 + 1 < wc.heap.size + 1 + 1 := (by omega)))
    (try (have : w4.heap.size + 1 + 1 + 1 < wc.heap.size := (by omega)))
    (try (have : w4.heap.size + 1 + 1 + 1 < wc.heap.size + 1 := (by omega)))
    (try (have : w4.heap.size + 1 + 1 + 1 < wc.heap.size + 1 + 1 := (by omega)))
    (try (have : w5.heap.size < wc.heap.size := (by omega)))
    (try (have : w5.heap.size < wc.heap.size + 1 := (by omega)))
    (try (have : w5.heap.size < wc.heap.size + 1 + 1 := (by omega)))
    (try (have : w5.heap.size + 1 < wc.heap.size := (by omega)))
    (try (have : w5.heap.size + 1 < wc.heap.size + 1 := (by omega)))
    (try (have : w5.heap.size + 1 < wc.heap.size + 1 + 1 := (by omega)))
    (try (have : w5.heap.size + 1 + 1 < wc.heap.size := (by omega)))
    (try (have : w5.heap.size + 1 + 1 < wc.heap.size + 1 := (by omega)))
    (try (have : w5.heap.size + 1 + 1 < wc.heap.size + 1 + 1 := (by omega)))
    (try (have : w5.heap.size + 1 + 1 + 1 < wc.heap.size := (by omega)))
    (try (have : w5.heap.size + 1 + 1 + 1 < wc.heap.size + 1 := (by omega)))
    (try (have : w5.heap.size + 1 + 1 + 1 < wc.heap.size + 1 + 1 := (by omega)))
    (try (have : b < wc.heap.size := (by omega)))
    (try (have : b < wc.heap.size + 1 := (by omega)))
    (try (have : b < wc.heap.size + 1 + 1 := (by omega)))
    (try (have : b4_11 < wc.heap.size := (by omega)))
    (try (have : b4_11 < wc.heap.size + 1 := (by omega)))
    (try (have : b4_11 < wc.heap.size + 1 + 1 := (by omega)))
    (try (have : b4_12 < wc.heap.size := (by omega)))
    (try (have : b4_12 < wc.heap.size + 1 := (by omega)))
    (try (have : b4_12 < wc.heap.size + 1 + 1 := (by omega)))
    (try (have : b7_6 < wc.heap.size := (by omega)))
    (try (have : b7_6 < wc.heap.size + 1 := (by omega)))
    (try (have : b7_6 < wc.heap.size + 1 + 1 := (by omega)))
    (try (have : b7_7 < wc.heap.size := (by omega)))
    (try (have : b7_7 < wc.heap.size + 1 := (by omega)))
    (try (have : b7_7 < wc.heap.size + 1 + 1 := (by omega)))
    simp only [List.drop_succ_cons, List.drop_zero, List.drop_nil]
    go_wp2
    rw [rounds_succ]
    go_wp2
    refine Free.wp_region 16 #[0, 0, 2, 6, 0, 0, 48, 126, 0, 256, 768, 0, 3840, 8190, 0, 32767, 65535] (by kernel_rfl) (by kernel_rfl) ?_
    simp only [List.take_succ_cons, List.take_zero]
    iterate 16
      refine Free.E.q (by rfl) ?_
      apply Exists.intro
      refine ⟨fun u w' hc hb => ?_, ?_⟩
      go_simp
      (try go_ints); (try simp only [Ob.ite_imx, Ob.ite_imn]); first | exact rfl | (go_simp; exact rfl) | (simp only [↓IntWalk.iteOmega]; (try go_simp); exact rfl)
      simp only [Act.put, List.setIfInBounds_toArray, List.set_cons_zero, List.set_cons_succ, List.nil_append, List.cons_append]
    refine Free.E.nil (fun u wd S hF => ?_)
    have hbd := hF.below
    clear hF
    have hcd := (Free.cells_of hbd).1
    have hfd := (Free.cells_of hbd).2
    have hzd := hbd.size
    try simp only [World.size_alloc, World.size_setCell, World.size_drew] at hzd
    (try (have : w.heap.size < wd.heap.size := (by omega)))
    (try (have : w.heap.size < wd.heap.size + 1 := (by omega)))
    (try (have : w.heap.size < wd.heap.size + 1 + 1 := (by omega)))
    (try (have : w.heap.size + 1 < wd.heap.size := (by omega)))
    (try (have : w.heap.size + 1 < wd.heap.size + 1 := (by omega)))
    (try (have : w.heap.size + 1 < wd.heap.size + 1 + 1 := (by omega)))
    (try (have : w.heap.size + 1 + 1 < wd.heap.size := (by omega)))
    (try (have : w.heap.size + 1 + 1 < wd.heap.size + 1 := (by omega)))
    (try (have : w.heap.size + 1 + 1 < wd.heap.size + 1 + 1 := (by omega)))
    (try (have : w.heap.size + 1 + 1 + 1 < wd.heap.size := (by omega)))
    (try (have : w.heap.size + 1 + 1 + 1 < wd.heap.size + 1 := (by omega)))
    (try (have : w.heap.size + 1 + 1 + 1 < wd.heap.size + 1 + 1 := (by omega)))
    (try (have : w4.heap.size < wd.heap.size := (by omega)))
    (try (have : w4.heap.size < wd.heap.size + 1 := (by omega)))
    (try (have : w4.heap.size < wd.heap.size + 1 + 1 := (by omega)))
    (try (have : w4.heap.size + 1 < wd.heap.size := (by omega)))
    (try (have : w4.heap.size + 1 < wd.heap.size + 1 := (by omega)))
    (try (have : w4.heap.size + 1 < wd.heap.size + 1 + 1 := (by omega)))
    (try (have : w4.heap.size + 1 + 1 < wd.heap.size := (by omega)))
    (try (have : w4.heap.size + 1 + 1 < wd.heap.size + 1 := (by omega)))
    (try (have : w4.heap.size + 1 + 1 < wd.heap.size + 1 + 1 := (by omega)))
    (try (have : w4.heap.size + 1 + 1 + 1 < wd.heap.size := (by omega)))
    (try (have : w4.heap.size + 1 + 1 + 1 < wd.heap.size + 1 := (by omega)))
    (try (have : w4.heap.size + 1 + 1 + 1 < wd.heap.size + 1 + 1 := (by omega)))
    (try (have : w5.heap.size < wd.heap.size := (by omega)))
    (try (have : w5.heap.size < wd.heap.size + 1 := (by omega)))
    (try (have : w5.heap.size < wd.heap.size + 1 + 1 := (by omega)))
    (try (have : w5.heap.size + 1 < wd.heap.size := (by omega)))
    (try (have : w5.heap.size + 1 < wd.heap.size + 1 := (by omega)))
    (try (have : w5.heap.size + 1 < wd.heap.size + 1 + 1 := (by omega)))
    (try (have : w5.heap.size + 1 + 1 < wd.heap.size := (by omega)))
    (try (have : w5.heap.size + 1 + 1 < wd.heap.size + 1 := (by omega)))
    (try (have : w5.heap.size + 1 + 1 < wd.heap.size + 1 + 1 := (by omega)))
    (try (have : w5.heap.size + 1 + 1 + 1 < wd.heap.size := (by omega)))
    (try (have : w5.heap.size + 1 + 1 + 1 < wd.heap.size + 1 := (by omega)))
    (try (have : w5.heap.size + 1 + 1 + 1 < wd.heap.size + 1 + 1 := (by omega)))
    (try (have : b < wd.heap.size := (by omega)))
    (try (have : b < wd.heap.size + 1 := (by omega)))
    (try (have : b < wd.heap.size + 1 + 1 := (by omega)))
    (try (have : b4_11 < wd.heap.size := (by omega)))
    (try (have : b4_11 < wd.heap.size + 1 := (by omega)))
    (try (have : b4_11 < wd.heap.size + 1 + 1 := (by omega)))
    (try (have : b4_12 < wd.heap.size := (by omega)))
    (try (have : b4_12 < wd.heap.size + 1 := (by omega)))
    (try (have : b4_12 < wd.heap.size + 1 + 1 := (by omega)))
    (try (have : b7_6 < wd.heap.size := (by omega)))
    (try (have : b7_6 < wd.heap.size + 1 := (by omega)))
    (try (have : b7_6 < wd.heap.size + 1 + 1 := (by omega)))
    (try (have : b7_7 < wd.heap.size := (by omega)))
    (try (have : b7_7 < wd.heap.size + 1 := (by omega)))
    (try (have : b7_7 < wd.heap.size + 1 + 1 := (by omega)))
    simp only [List.drop_succ_cons, List.drop_zero, List.drop_nil]
    go_wp2
    rw [rounds_succ]
    obtain ⟨g1, hg1⟩ : ∃ g : Bool, (t - p1 != 0) = g := ⟨_, rfl⟩
    obtain ⟨g2, hg2⟩ : ∃ g : Bool, (t - p1 != q1 - p1) = g := ⟨_, rfl⟩
    have hbd : (if t - p1 ≠ 0 ∧ t - p1 ≠ q1 - p1 then bd * (q1 - p1) else 0) = if g1 = true ∧ g2 = true then bd * (q1 - p1) else 0 := by
      rw [← hg1, ← hg2]; simp only [bne_iff_ne]
    have HV : Hid (prR bd ⟨p1, p2, p3, p4, p5⟩ ⟨q1, q2, q3, q4, q5⟩ t = ⟨p2 * (q1 - p1 - (t - p1)) + q2 * (t - p1), p3 * (q1 - p1 - (t - p1)) + q3 * (t - p1), p4 * (q1 - p1 - (t - p1)) + q4 * (t - p1), p5 * (q1 - p1 - (t - p1)) + q5 * (t - p1), if g1 = true ∧ g2 = true then bd * (q1 - p1) else 0, q1 - p1⟩) := by
      unfold Hid prR; simp only; rw [hbd]
    clear hbd
    rw [HV.out] at HR
    cases g1 <;> cases g2
    all_goals
      repeat (first | go_skip | go_guarded | go_step)
    · refine bodyPost_ret (v := prV ⟨p2 * (q1 - p1 - (t - p1)) + q2 * (t - p1), p3 * (q1 - p1 - (t - p1)) + q3 * (t - p1), p4 * (q1 - p1 - (t - p1)) + q4 * (t - p1), p5 * (q1 - p1 - (t - p1)) + q5 * (t - p1), 0, q1 - p1⟩) (by simp [results, Try.results86, go_sem, *]) rfl ?_
      exact HR.out _ (by repeat' first | with_reducible exact Below.refl _ _ | with_reducible assumption | with_reducible refine Free.Grow.alloc ?_ _ | with_reducible refine Free.Grow.setCell ?_ (by first | omega | (simp; done) | (simp; omega)) _ | with_reducible refine Free.Grow.drew ?_ | with_reducible refine Free.Grow.trans ?_ (by assumption))
    · refine bodyPost_ret (v := prV ⟨p2 * (q1 - p1 - (t - p1)) + q2 * (t - p1), p3 * (q1 - p1 - (t - p1)) + q3 * (t - p1), p4 * (q1 - p1 - (t - p1)) + q4 * (t - p1), p5 * (q1 - p1 - (t - p1)) + q5 * (t - p1), 0, q1 - p1⟩) (by simp [results, Try.results86, go_sem, *]) rfl ?_
      exact HR.out _ (by repeat' first | with_reducible exact Below.refl _ _ | with_reducible assumption | with_reducible refine Free.Grow.alloc ?_ _ | with_reducible refine Free.Grow.setCell ?_ (by first | omega | (simp; done) | (simp; omega)) _ | with_reducible refine Free.Grow.drew ?_ | with_reducible refine Free.Grow.trans ?_ (by assumption))
    · refine bodyPost_ret (v := prV ⟨p2 * (q1 - p1 - (t - p1)) + q2 * (t - p1), p3 * (q1 - p1 - (t - p1)) + q3 * (t - p1), p4 * (q1 - p1 - (t - p1)) + q4 * (t - p1), p5 * (q1 - p1 - (t - p1)) + q5 * (t - p1), 0, q1 - p1⟩) (by simp [results, Try.results86, go_sem, *]) rfl ?_
      exact HR.out _ (by repeat' first | with_reducible exact Below.refl _ _ | with_reducible assumption | with_reducible refine Free.Grow.alloc ?_ _ | with_reducible refine Free.Grow.setCell ?_ (by first | omega | (simp; done) | (simp; omega)) _ | with_reducible refine Free.Grow.drew ?_ | with_reducible refine Free.Grow.trans ?_ (by assumption))
    · refine bodyPost_ret (v := prV ⟨p2 * (q1 - p1 - (t - p1)) + q2 * (t - p1), p3 * (q1 - p1 - (t - p1)) + q3 * (t - p1), p4 * (q1 - p1 - (t - p1)) + q4 * (t - p1), p5 * (q1 - p1 - (t - p1)) + q5 * (t - p1), bd * (q1 - p1), q1 - p1⟩) (by simp [results, Try.results86, go_sem, *]) rfl ?_
      exact HR.out _ (by repeat' first | with_reducible exact Below.refl _ _ | with_reducible assumption | with_reducible refine Free.Grow.alloc ?_ _ | with_reducible refine Free.Grow.setCell ?_ (by first | omega | (simp; done) | (simp; omega)) _ | with_reducible refine Free.Grow.drew ?_ | with_reducible refine Free.Grow.trans ?_ (by assumption))
end Go.Proofs.Ythpjhpfebjjanaa
