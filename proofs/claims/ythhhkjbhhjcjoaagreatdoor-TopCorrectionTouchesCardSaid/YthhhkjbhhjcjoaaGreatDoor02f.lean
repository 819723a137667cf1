/- Chapter 2: the nominal point of the program. -/
import Derived.Test.YthhhkjbhhjcjoaaGreatDoor02e
import Derived.Test.YthhhkjbhhjcjoaaGreatDoor02Spec
set_option linter.unusedSimpArgs false
set_option linter.unusedVariables false
namespace Go.Proofs.YthhhkjbhhjcjoaaGreatDoor
open Go.RowKit Go.Ob

abbrev ptV (p : Pt) : Value := .agg #[.int .i64 p.a0, .int .i64 p.a1, .int .i64 p.a2, .int .i64 p.err, .int .i64 p.over, .bool p.bent]

set_option maxRecDepth 100000 in
set_option maxHeartbeats 2000000 in
theorem point_found (nm : ByteArray) (bd t : Int) (b off cap : Nat) (l : List St) (w : World) (hR : Right bd l) (h0 : frstT l ≤ t) (h1 : t ≤ lastT l) (hS : HasSts w b off l) (hbw : b < w.heap.size) (hcap : l.length ≤ cap) (hf : (at_ l (idx l t)).t = t) :
    Calls Tryz.prog 104 #[obV nm bd (some ⟨b, off, none⟩) l.length cap, .int .i64 t] w fun e w' => e = .returned (ptV (pt l t)) ∧ Below w.heap.size w w' := by
  have hk := idx_lt hR h1
  have HP : Hid (pt l t = ⟨(at_ l (idx l t)).x, (at_ l (idx l t)).y, (at_ l (idx l t)).z, (at_ l (idx l t)).e, 1, false⟩) := by unfold Hid pt; rw [if_pos hf]
  have hokf := hR.ok _ (show 0 < l.length by have := hR.n2; omega)
  have hokl := hR.ok _ (show l.length - 1 < l.length by have := hR.n2; omega)
  have ht0 : 0 ≤ t := by have := hokf.t0; unfold frstT at h0; omega
  have ht1 : t ≤ 1000000000 := by have := hokl.t1; unfold lastT at h1; omega
  have HC : ∀ w', HasSts w' b off l → b < w'.heap.size → _ := fun w' hS' hb' => search_any b off cap l t w' hS' hb' hR.n40 hR.ok hR.up ht0 ht1 hcap
  have HC2 := Lib.hid HC
  have HS := Lib.hid hS
  have hn40 := hR.n40
  clear HC hS h0 h1 hR
  rw [decide_eq_true (show idx l t < l.length ∧ (at_ l (idx l t)).t = t from ⟨hk, hf⟩)] at HC2
  clear hf
  generalize hi : idx l t = k at *
  clear hi
  have : b < w.heap.size := (by omega); have : b < w.heap.size + 1 := (by omega); have : b < w.heap.size + 1 + 1 := (by omega)
  have hk1 : (k : Int) < l.length := by omega
  obtain ⟨c1, c2, c3, c4, c5⟩ := HS.out k hk
  go_enter Tryz.func104, Tryz.ntmps104
  go_wp2_with (go_at_call 130; refine (HC2.out _ (HS.out.below (B := w.heap.size) (by repeat' first | with_reducible exact Below.refl _ _ | with_reducible assumption | with_reducible refine Free.Grow.alloc ?_ _ | with_reducible refine Free.Grow.setCell ?_ (by first | omega | (simp; done) | (simp; omega)) _ | with_reducible refine Free.Grow.drew ?_ | with_reducible refine Free.Grow.trans ?_ (by assumption)) hbw) (by simp; omega)).mono ?_; rintro e w1 ⟨rfl, hb1⟩; have hc1 := (Free.cells_of hb1).1; have hf1 := (Free.cells_of hb1).2; have hz1 := hb1.size; (try simp only [World.size_alloc, World.size_setCell, World.size_drew] at hz1); (try (have : w.heap.size < w1.heap.size := (by omega))); (try (have : w.heap.size < w1.heap.size + 1 := (by omega))); (try (have : w.heap.size < w1.heap.size + 1 + 1 := (by omega))); (try (have : w.heap.size + 1 < w1.heap.size := (by omega))); (try (have : w.heap.size + 1 < w1.heap.size + 1 := (by omega))); (try (have : w.heap.size + 1 < w1.heap.size + 1 + 1 := (by omega))); (try (have : w.heap.size + 1 + 1 < w1.heap.size := (by omega))); (try (have : w.heap.size + 1 + 1 < w1.heap.size + 1 := (by omega))); (try (have : w.heap.size + 1 + 1 < w1.heap.size + 1 + 1 := (by omega))); (try (have : w.heap.size + 1 + 1 + 1 < w1.heap.size := (by omega))); (try (have : w.heap.size + 1 + 1 + 1 < w1.heap.size + 1 := (by omega))); (try (have : w.heap.size + 1 + 1 + 1 < w1.heap.size + 1 + 1 := (by omega))); (try (have : b < w1.heap.size := (by omega))); (try (have : b < w1.heap.size + 1 := (by omega))); (try (have : b < w1.heap.size + 1 + 1 := (by omega))))
  refine Free.wp_region 6 #[0, 1, 3, 0, 8, 31, 63] (by kernel_rfl) (by kernel_rfl) ?_
  simp only [List.take_succ_cons, List.take_zero]
  iterate 6
    refine Free.E.q (by rfl) ?_
    apply Exists.intro
    refine ⟨fun u w' hc hb => ?_, ?_⟩
    go_simp
    (try go_ints); (try simp only [Ob.ite_imx, Ob.ite_imn]); first | exact rfl | (go_simp; exact rfl) | ((go_at_call 76; exact vectorOf_any _ _ _ _)) | (simp only [↓IntWalk.iteOmega]; (try go_simp); exact rfl)
    simp only [Act.put, List.setIfInBounds_toArray, List.set_cons_zero, List.set_cons_succ, List.nil_append, List.cons_append]
  refine Free.E.nil (fun u w2 S hF => ?_)
  have hb2 := hF.below
  clear hF
  have hc2 := (Free.cells_of hb2).1
  have hf2 := (Free.cells_of hb2).2
  have hz2 := hb2.size
  try simp only [World.size_alloc, World.size_setCell, World.size_drew] at hz2
  (try (have : w.heap.size < w2.heap.size := (by omega)))
  (try (have : w.heap.size < w2.heap.size + 1 := (by omega)))
  (try (have : w.heap.size < w2.heap.size + 1 + 1 := (by omega)))
  (try (have : w.heap.size + 1 < w2.heap.size := (by omega)))
  (try (have : w.heap.size + 1 < w2.heap.size + 1 := (by omega)))
  (try (have : w.heap.size + 1 < w2.heap.size + 1 + 1 := (by omega)))
  (try (have : w.heap.size + 1 + 1 < w2.heap.size := (by omega)))
  (try (have : w.heap.size + 1 + 1 < w2.heap.size + 1 := (by omega)))
  (try (have : w.heap.size + 1 + 1 < w2.heap.size + 1 + 1 := (by omega)))
  (try (have : w.heap.size + 1 + 1 + 1 < w2.heap.size := (by omega)))
  (try (have : w.heap.size + 1 + 1 + 1 < w2.heap.size + 1 := (by omega)))
  (try (have : w.heap.size + 1 + 1 + 1 < w2.heap.size + 1 + 1 := (by omega)))
  (try (have : w1.heap.size < w2.heap.size := (by omega)))
  (try (have : w1.heap.size < w2.heap.size + 1 := (by omega)))
  (try (have : w1.heap.size < w2.heap.size + 1 + 1 := (by omega)))
  (try (have : w1.heap.size + 1 < w2.heap.size := (by omega)))
  (try (have : w1.heap.size + 1 < w2.heap.size + 1 := (by omega)))
  (try (have : w1.heap.size + 1 < w2.heap.size + 1 + 1 := (by omega)))
  (try (have : w1.heap.size + 1 + 1 < w2.heap.size := (by omega)))
  (try (have : w1.heap.size + 1 + 1 < w2.heap.size + 1 := (by omega)))
  (try (have : w1.heap.size + 1 + 1 < w2.heap.size + 1 + 1 := (by omega)))
  (try (have : w1.heap.size + 1 + 1 + 1 < w2.heap.size := (by omega)))
  (try (have : w1.heap.size + 1 + 1 + 1 < w2.heap.size + 1 := (by omega)))
  (try (have : w1.heap.size + 1 + 1 + 1 < w2.heap.size + 1 + 1 := (by omega)))
  (try (have : b < w2.heap.size := (by omega)))
  (try (have : b < w2.heap.size + 1 := (by omega)))
  (try (have : b < w2.heap.size + 1 + 1 := (by omega)))
  simp only [List.drop_succ_cons, List.drop_zero, List.drop_nil]
  go_wp2
  refine bodyPost_ret (v := ptV ⟨(at_ l k).x, (at_ l k).y, (at_ l k).z, (at_ l k).e, 1, false⟩) (by simp [results, Tryz.results104, go_sem, *]) rfl ?_
  exact ⟨by rw [HP.out], by repeat' first | with_reducible exact Below.refl _ _ | with_reducible assumption | with_reducible refine Free.Grow.alloc ?_ _ | with_reducible refine Free.Grow.setCell ?_ (by first | omega | (simp; done) | (simp; omega)) _ | with_reducible refine Free.Grow.drew ?_ | with_reducible refine Free.Grow.trans ?_ (by assumption)⟩
set_option maxRecDepth 100000 in
set_option maxHeartbeats 4000000 in
theorem point_bent (nm : ByteArray) (bd t : Int) (b off cap : Nat) (l : List St) (w : World) (hR : Right bd l) (h0 : frstT l ≤ t) (h1 : t ≤ lastT l) (hS : HasSts w b off l) (hbw : b < w.heap.size) (hcap : l.length ≤ cap) (hf : ¬ (at_ l (idx l t)).t = t) :
    Calls Tryz.prog 104 #[obV nm bd (some ⟨b, off, none⟩) l.length cap, .int .i64 t] w fun e w' => e = .returned (ptV (pt l t)) ∧ Below w.heap.size w w' := by
  have hk := idx_lt hR h1
  have hkp := idx_pos h0 hk hf
  have hst := idx_stop l t hk
  have htk := idx_take l t (idx l t - 1) (by omega)
  have HP : Hid (pt l t = ptB (at_ l (idx l t - 1)) (at_ l (idx l t)) t) := pt_bent hf
  have hokf := hR.ok _ (show 0 < l.length by have := hR.n2; omega)
  have hokl := hR.ok _ (show l.length - 1 < l.length by have := hR.n2; omega)
  have hoka := hR.ok (idx l t - 1) (by omega)
  have hokb := hR.ok (idx l t) hk
  have harc := hR.arc (idx l t) hk
  have hmono := hR.le 0 (idx l t - 1) (by omega) (by omega)
  have ht0 : 0 ≤ t := by have := hokf.t0; unfold frstT at h0; omega
  have ht1 : t ≤ 1000000000 := by have := hokl.t1; unfold lastT at h1; omega
  have HC : ∀ w', HasSts w' b off l → b < w'.heap.size → _ := fun w' hS' hb' => search_any b off cap l t w' hS' hb' hR.n40 hR.ok hR.up ht0 ht1 hcap
  have HC2 := Lib.hid HC
  have HS := Lib.hid hS
  have hn40 := hR.n40
  clear HC hS h0 h1 hR hokf hokl
  rw [decide_eq_false (show ¬ (idx l t < l.length ∧ (at_ l (idx l t)).t = t) from fun h => hf h.2)] at HC2
  generalize hi : idx l t = k at *
  clear hi
  obtain ⟨c1, c2, c3, c4, c5⟩ := HS.out k hk
  obtain ⟨d1, d2, d3, d4, d5⟩ := HS.out (k - 1) (by omega)
  generalize at_ l k = sb at *
  generalize at_ l (k - 1) = sa at *
  obtain ⟨a1, a2, a3, a4, a5⟩ := sa
  obtain ⟨b1, b2, b3, b4, b5⟩ := sb
  obtain ⟨oa1, oa2, oa3, oa4, oa5, oa6, oa7, oa8, oa9, oa10⟩ := hoka
  obtain ⟨ob1, ob2, ob3, ob4, ob5, ob6, ob7, ob8, ob9, ob10⟩ := hokb
  simp only at *
  have hw0 : 0 ≤ b1 - a1 - (t - a1) := by omega
  have hw1 : b1 - a1 - (t - a1) ≤ 20000 := by omega
  have hp0 : 0 ≤ t - a1 := by omega
  have hp1 : t - a1 ≤ 20000 := by omega
  have hk1 : (k : Int) < l.length := by omega
  have hk2 : (1 : Int) ≤ k := by omega
  have hk3 : ((k : Int) - 1).toNat = k - 1 := by omega
  have hk4 : (k : Int) - 1 < l.length := by omega
  have hk5 : (k : Int) ≤ 40 := by omega
  have hk6 : (0 : Int) ≤ (k : Int) - 1 := by omega
  clear hf hst htk harc hmono
  have : b < w.heap.size := (by omega); have : b < w.heap.size + 1 := (by omega); have : b < w.heap.size + 1 + 1 := (by omega)
  go_enter Tryz.func104, Tryz.ntmps104
  go_wp2_with (go_at_call 130; refine (HC2.out _ (HS.out.below (B := w.heap.size) (by repeat' first | with_reducible exact Below.refl _ _ | with_reducible assumption | with_reducible refine Free.Grow.alloc ?_ _ | with_reducible refine Free.Grow.setCell ?_ (by first | omega | (simp; done) | (simp; omega)) _ | with_reducible refine Free.Grow.drew ?_ | with_reducible refine Free.Grow.trans ?_ (by assumption)) hbw) (by simp; omega)).mono ?_; rintro e w1 ⟨rfl, hb1⟩; have hc1 := (Free.cells_of hb1).1; have hf1 := (Free.cells_of hb1).2; have hz1 := hb1.size; (try simp only [World.size_alloc, World.size_setCell, World.size_drew] at hz1); (try (have : w.heap.size < w1.heap.size := (by omega))); (try (have : w.heap.size < w1.heap.size + 1 := (by omega))); (try (have : w.heap.size < w1.heap.size + 1 + 1 := (by omega))); (try (have : w.heap.size + 1 < w1.heap.size := (by omega))); (try (have : w.heap.size + 1 < w1.heap.size + 1 := (by omega))); (try (have : w.heap.size + 1 < w1.heap.size + 1 + 1 := (by omega))); (try (have : w.heap.size + 1 + 1 < w1.heap.size := (by omega))); (try (have : w.heap.size + 1 + 1 < w1.heap.size + 1 := (by omega))); (try (have : w.heap.size + 1 + 1 < w1.heap.size + 1 + 1 := (by omega))); (try (have : w.heap.size + 1 + 1 + 1 < w1.heap.size := (by omega))); (try (have : w.heap.size + 1 + 1 + 1 < w1.heap.size + 1 := (by omega))); (try (have : w.heap.size + 1 + 1 + 1 < w1.heap.size + 1 + 1 := (by omega))); (try (have : b < w1.heap.size := (by omega))); (try (have : b < w1.heap.size + 1 := (by omega))); (try (have : b < w1.heap.size + 1 + 1 := (by omega))))
  refine Free.wp_region 17 #[0, 1, 3, 0, 8, 31, 63, 0, 128, 384, 0, 1920, 3968, 0, 0, 24703, 65535] (by kernel_rfl) (by kernel_rfl) ?_
  simp only [List.take_succ_cons, List.take_zero]
  iterate 13
    refine Free.E.q (by rfl) ?_
    apply Exists.intro
    refine ⟨fun u w' hc hb => ?_, ?_⟩
    go_simp
    (try go_ints); (try simp only [Ob.ite_imx, Ob.ite_imn]); first | exact rfl | (go_simp; exact rfl) | (simp only [↓IntWalk.iteOmega]; (try go_simp); exact rfl)
    simp only [Act.put, List.setIfInBounds_toArray, List.set_cons_zero, List.set_cons_succ, List.nil_append, List.cons_append]
  refine Free.E.new (z := #[.int .i64 0, .int .i64 0, .int .i64 0, .int .i64 0, .int .i64 0]) (by rfl) rfl (by kernel_rfl) ?_
  simp only [Act.put, List.setIfInBounds_toArray, List.set_cons_zero, List.set_cons_succ, List.nil_append, List.cons_append]
  refine Free.E.new (z := #[.int .i64 0, .int .i64 0, .int .i64 0, .int .i64 0, .int .i64 0]) (by rfl) rfl (by kernel_rfl) ?_
  simp only [Act.put, List.setIfInBounds_toArray, List.set_cons_zero, List.set_cons_succ, List.nil_append, List.cons_append]
  refine Free.E.init (k := 13) (by rfl) (by rfl) rfl rfl (by rfl) (by decide) (by rfl) (fun _ => rfl) (fun _ => rfl) (by kernel_rfl) rfl rfl (by rfl) ?_
  simp only [List.nil_append, List.cons_append]
  refine Free.E.init (k := 14) (by rfl) (by rfl) rfl rfl (by rfl) (by decide) (by rfl) (fun _ => rfl) (fun _ => rfl) (by kernel_rfl) rfl rfl (by rfl) ?_
  simp only [List.nil_append, List.cons_append]
  refine Free.E.nil (fun u w5 S hF => ?_)
  have hb5 := hF.below
  obtain ⟨b5_13, hu5_13, hlo5_13, hhi5_13, -, hk5_13⟩ := hF.allocs 13 _ _ rfl
  simp only [Free.final, List.findSome?, reduceIte, Option.getD_some, Option.getD_none, Nat.reduceEqDiff, Value.cells] at hk5_13
  obtain ⟨b5_14, hu5_14, hlo5_14, hhi5_14, -, hk5_14⟩ := hF.allocs 14 _ _ rfl
  simp only [Free.final, List.findSome?, reduceIte, Option.getD_some, Option.getD_none, Nat.reduceEqDiff, Value.cells] at hk5_14
  have hne5_13_14 := hF.apart 13 14 _ _ _ _ rfl rfl (by decide)
  rw [hu5_13, hu5_14] at hne5_13_14
  replace hne5_13_14 := Free.ptr_ne hne5_13_14
  clear hF
  have hc5 := (Free.cells_of hb5).1
  have hf5 := (Free.cells_of hb5).2
  have hz5 := hb5.size
  simp only [hu5_13, hu5_14]
  have hcb5_13 := Free.cell_of_blk hk5_13
  have hfb5_13 := Free.frozen_of_blk hk5_13
  clear hu5_13 hk5_13
  have hcb5_14 := Free.cell_of_blk hk5_14
  have hfb5_14 := Free.frozen_of_blk hk5_14
  clear hu5_14 hk5_14
  try simp only [World.size_alloc, World.size_setCell, World.size_drew] at hz5 hlo5_13 hlo5_14
  (try (have : w.heap.size < w5.heap.size := (by omega)))
  (try (have : w.heap.size < w5.heap.size + 1 := (by omega)))
  (try (have : w.heap.size < w5.heap.size + 1 + 1 := (by omega)))
  (try (have : w.heap.size + 1 < w5.heap.size := (by omega)))
  (try (have : w.heap.size + 1 < w5.heap.size + 1 := (by omega)))
  (try (have : w.heap.size + 1 < w5.heap.size + 1 + 1 := (by omega)))
  (try (have : w.heap.size + 1 + 1 < w5.heap.size := (by omega)))
  (try (have : w.heap.size + 1 + 1 < w5.heap.size + 1 := (by omega)))
  (try (have : w.heap.size + 1 + 1 < w5.heap.size + 1 + 1 := (by omega)))
  (try (have : w.heap.size + 1 + 1 + 1 < w5.heap.size := (by omega)))
  (try (have : w.heap.size + 1 + 1 + 1 < w5.heap.size + 1 := (by omega)))
  (try (have : w.heap.size + 1 + 1 + 1 < w5.heap.size + 1 + 1 := (by omega)))
  (try (have : w1.heap.size < w5.heap.size := (by omega)))
  (try (have : w1.heap.size < w5.heap.size + 1 := (by omega)))
  (try (have : w1.heap.size < w5.heap.size + 1 + 1 := (by omega)))
  (try (have : w1.heap.size + 1 < w5.heap.size := (by omega)))
  (try (have : w1.heap.size + 1 < w5.heap.size + 1 := (by omega)))
  (try (have : w1.heap.size + 1 < w5.heap.size + 1 + 1 := (by omega)))
  (try (have : w1.heap.size + 1 + 1 < w5.heap.size := (by omega)))
  (try (have : w1.heap.size + 1 + 1 < w5.heap.size + 1 := (by omega)))
  (try (have : w1.heap.size + 1 + 1 < w5.heap.size + 1 + 1 := (by omega)))
  (try (have : w1.heap.size + 1 + 1 + 1 < w5.heap.size := (by omega)))
  (try (have : w1.heap.size + 1 + 1 + 1 < w5.heap.size + 1 := (by omega)))
  (try (have : w1.heap.size + 1 + 1 + 1 < w5.heap.size + 1 + 1 := (by omega)))
  (try (have : b < w5.heap.size := (by omega)))
  (try (have : b < w5.heap.size + 1 := (by omega)))
  (try (have : b < w5.heap.size + 1 + 1 := (by omega)))
  simp only [List.drop_succ_cons, List.drop_zero, List.drop_nil]
  go_wp2
  refine Free.wp_region 13 #[0, 1, 0, 4, 15, 0, 0, 64, 224, 0, 0, 1567, 4095] (by kernel_rfl) (by kernel_rfl) ?_
  simp only [List.take_succ_cons, List.take_zero]
  iterate 9
    refine Free.E.q (by rfl) ?_
    apply Exists.intro
    refine ⟨fun u w' hc hb => ?_, ?_⟩
    go_simp
    (try go_ints); (try simp only [Ob.ite_imx, Ob.ite_imn]); first | exact rfl | (go_simp; exact rfl) | (simp only [↓IntWalk.iteOmega]; (try go_simp); exact rfl)
    simp only [Act.put, List.setIfInBounds_toArray, List.set_cons_zero, List.set_cons_succ, List.nil_append, List.cons_append]
  refine Free.E.new (z := #[.int .i64 0]) (by rfl) rfl (by kernel_rfl) ?_
  simp only [Act.put, List.setIfInBounds_toArray, List.set_cons_zero, List.set_cons_succ, List.nil_append, List.cons_append]
  refine Free.E.new (z := #[.int .i64 0]) (by rfl) rfl (by kernel_rfl) ?_
  simp only [Act.put, List.setIfInBounds_toArray, List.set_cons_zero, List.set_cons_succ, List.nil_append, List.cons_append]
  refine Free.E.init (k := 9) (by rfl) (by rfl) rfl rfl (by rfl) (by decide) (by rfl) (fun _ => rfl) (fun _ => rfl) (by kernel_rfl) rfl rfl (by rfl) ?_
  simp only [List.nil_append, List.cons_append]
  refine Free.E.init (k := 10) (by rfl) (by rfl) rfl rfl (by rfl) (by decide) (by rfl) (fun _ => rfl) (fun _ => rfl) (by kernel_rfl) rfl rfl (by rfl) ?_
  simp only [List.nil_append, List.cons_append]
  refine Free.E.nil (fun u w6 S hF => ?_)
  have hb6 := hF.below
  obtain ⟨b6_9, hu6_9, hlo6_9, hhi6_9, -, hk6_9⟩ := hF.allocs 9 _ _ rfl
  simp only [Free.final, List.findSome?, reduceIte, Option.getD_some, Option.getD_none, Nat.reduceEqDiff, Value.cells] at hk6_9
  obtain ⟨b6_10, hu6_10, hlo6_10, hhi6_10, -, hk6_10⟩ := hF.allocs 10 _ _ rfl
  simp only [Free.final, List.findSome?, reduceIte, Option.getD_some, Option.getD_none, Nat.reduceEqDiff, Value.cells] at hk6_10
  have hne6_9_10 := hF.apart 9 10 _ _ _ _ rfl rfl (by decide)
  rw [hu6_9, hu6_10] at hne6_9_10
  replace hne6_9_10 := Free.ptr_ne hne6_9_10
  clear hF
  have hc6 := (Free.cells_of hb6).1
  have hf6 := (Free.cells_of hb6).2
  have hz6 := hb6.size
  simp only [hu6_9, hu6_10]
  have hcb6_9 := Free.cell_of_blk hk6_9
  have hfb6_9 := Free.frozen_of_blk hk6_9
  clear hu6_9 hk6_9
  have hcb6_10 := Free.cell_of_blk hk6_10
  have hfb6_10 := Free.frozen_of_blk hk6_10
  clear hu6_10 hk6_10
  try simp only [World.size_alloc, World.size_setCell, World.size_drew] at hz6 hlo6_9 hlo6_10
  (try (have : w.heap.size < w6.heap.size := (by omega)))
  (try (have : w.heap.size < w6.heap.size + 1 := (by omega)))
  (try (have : w.heap.size < w6.heap.size + 1 + 1 := (by omega)))
  (try (have : w.heap.size + 1 < w6.heap.size := (by omega)))
  (try (have : w.heap.size + 1 < w6.heap.size + 1 := (by omega)))
  (try (have : w.heap.size + 1 < w6.heap.size + 1 + 1 := (by omega)))
  (try (have : w.heap.size + 1 + 1 < w6.heap.size := (by omega)))
  (try (have : w.heap.size + 1 + 1 < w6.heap.size + 1 := (by omega)))
  (try (have : w.heap.size + 1 + 1 < w6.heap.size + 1 + 1 := (by omega)))
  (try (have : w.heap.size + 1 + 1 + 1 < w6.heap.size := (by omega)))
  (try (have : w.heap.size + 1 + 1 + 1 < w6.heap.size + 1 := (by omega)))
  (try (have : w.heap.size + 1 + 1 + 1 < w6.heap.size + 1 + 1 := (by omega)))
  (try (have : w1.heap.size < w6.heap.size := (by omega)))
  (try (have : w1.heap.size < w6.heap.size + 1 := (by omega)))
  (try (have : w1.heap.size < w6.heap.size + 1 + 1 := (by omega)))
  (try (have : w1.heap.size + 1 < w6.heap.size := (by omega)))
  (try (have : w1.heap.size + 1 < w6.heap.size + 1 := (by omega)))
  (try (have : w1.heap.size + 1 < w6.heap.size + 1 + 1 := (by omega)))
  (try (have : w1.heap.size + 1 + 1 < w6.heap.size := (by omega)))
  (try (have : w1.heap.size + 1 + 1 < w6.heap.size + 1 := (by omega)))
  (try (have : w1.heap.size + 1 + 1 < w6.heap.size + 1 + 1 := (by omega)))
  (try (have : w1.heap.size + 1 + 1 + 1 < w6.heap.size := (by omega)))
  (try (have : w1.heap.size + 1 + 1 + 1 < w6.heap.size + 1 := (by omega)))
  (try (have : w1.heap.size + 1 + 1 + 1 < w6.heap.size + 1 + 1 := (by omega)))
  (try (have : b < w6.heap.size := (by omega)))
  (try (have : b < w6.heap.size + 1 := (by omega)))
  (try (have : b < w6.heap.size + 1 + 1 := (by omega)))
  (try (have : b5_13 < w6.heap.size := (by omega)))
  (try (have : b5_13 < w6.heap.size + 1 := (by omega)))
  (try (have : b5_13 < w6.heap.size + 1 + 1 := (by omega)))
  (try (have : b5_14 < w6.heap.size := (by omega)))
  (try (have : b5_14 < w6.heap.size + 1 := (by omega)))
  (try (have : b5_14 < w6.heap.size + 1 + 1 := (by omega)))
  simp only [List.drop_succ_cons, List.drop_zero, List.drop_nil]
  go_wp2
  refine Free.wp_region 10 #[0, 0, 2, 0, 8, 31, 0, 127, 0, 511] (by kernel_rfl) (by kernel_rfl) ?_
  simp only [List.take_succ_cons, List.take_zero]
  iterate 8
    refine Free.E.q (by rfl) ?_
    apply Exists.intro
    refine ⟨fun u w' hc hb => ?_, ?_⟩
    go_simp
    (try go_ints); (try simp only [Ob.ite_imx, Ob.ite_imn]); first | exact rfl | (go_simp; exact rfl) | ((go_at_call 132; exact Free.Calls.grow (mix_any _ _ _ _ (b1 - a1) (t - a1) _ (by go_simp) (by go_simp) ⟨hw0, hw1⟩ ⟨hp0, hp1⟩ (by omega) (by omega)))) | (simp only [↓IntWalk.iteOmega]; (try go_simp); exact rfl)
    simp only [Act.put, List.setIfInBounds_toArray, List.set_cons_zero, List.set_cons_succ, List.nil_append, List.cons_append]
  refine Free.E.new (z := #[.int .i64 0, .int .i64 0, .int .i64 0, .int .i64 0, .int .i64 0, .bool false]) (by rfl) rfl (by kernel_rfl) ?_
  simp only [Act.put, List.setIfInBounds_toArray, List.set_cons_zero, List.set_cons_succ, List.nil_append, List.cons_append]
  refine Free.E.init (k := 8) (by rfl) (by rfl) rfl rfl (by rfl) (by decide) (by rfl) (fun _ => rfl) (fun _ => rfl) (by kernel_rfl) rfl rfl (by rfl) ?_
  simp only [List.nil_append, List.cons_append]
  refine Free.E.nil (fun u w8 S hF => ?_)
  have hb8 := hF.below
  obtain ⟨b8_8, hu8_8, hlo8_8, hhi8_8, -, hk8_8⟩ := hF.allocs 8 _ _ rfl
  simp only [Free.final, List.findSome?, reduceIte, Option.getD_some, Option.getD_none, Nat.reduceEqDiff, Value.cells] at hk8_8
  clear hF
  have hc8 := (Free.cells_of hb8).1
  have hf8 := (Free.cells_of hb8).2
  have hz8 := hb8.size
  simp only [hu8_8]
  have hcb8_8 := Free.cell_of_blk hk8_8
  have hfb8_8 := Free.frozen_of_blk hk8_8
  clear hu8_8 hk8_8
  try simp only [World.size_alloc, World.size_setCell, World.size_drew] at hz8 hlo8_8
  (try (have : w.heap.size < w8.heap.size := (by omega)))
  (try (have : w.heap.size < w8.heap.size + 1 := (by omega)))
  (try (have : w.heap.size < w8.heap.size + 1 + 1 := (by omega)))
  (try (have : w.heap.size + 1 < w8.heap.size := (by omega)))
  (try (have : w.heap.size + 1 < w8.heap.size + 1 := (by omega)))
  (try (have : w.heap.size + 1 < w8.heap.size + 1 + 1 := (by omega)))
  (try (have : w.heap.size + 1 + 1 < w8.heap.size := (by omega)))
  (try (have : w.heap.size + 1 + 1 < w8.heap.size + 1 := (by omega)))
  (try (have : w.heap.size + 1 + 1 < w8.heap.size + 1 + 1 := (by omega)))
  (try (have : w.heap.size + 1 + 1 + 1 < w8.heap.size := (by omega)))
  (try (have : w.heap.size + 1 + 1 + 1 < w8.heap.size + 1 := (by omega)))
  (try (have : w.heap.size + 1 + 1 + 1 < w8.heap.size + 1 + 1 := (by omega)))
  (try (have : w1.heap.size < w8.heap.size := (by omega)))
  (try (have : w1.heap.size < w8.heap.size + 1 := (by omega)))
  (try (have : w1.heap.size < w8.heap.size + 1 + 1 := (by omega)))
  (try (have : w1.heap.size + 1 < w8.heap.size := (by omega)))
  (try (have : w1.heap.size + 1 < w8.heap.size + 1 := (by omega)))
  (try (have : w1.heap.size + 1 < w8.heap.size + 1 + 1 := (by omega)))
  (try (have : w1.heap.size + 1 + 1 < w8.heap.size := (by omega)))
  (try (have : w1.heap.size + 1 + 1 < w8.heap.size + 1 := (by omega)))
  (try (have : w1.heap.size + 1 + 1 < w8.heap.size + 1 + 1 := (by omega)))
  (try (have : w1.heap.size + 1 + 1 + 1 < w8.heap.size := (by omega)))
  (try (have : w1.heap.size + 1 + 1 + 1 < w8.heap.size + 1 := (by omega)))
  (try (have : w1.heap.size + 1 + 1 + 1 < w8.heap.size + 1 + 1 := (by omega)))
  (try (have : b < w8.heap.size := (by omega)))
  (try (have : b < w8.heap.size + 1 := (by omega)))
  (try (have : b < w8.heap.size + 1 + 1 := (by omega)))
  (try (have : b5_13 < w8.heap.size := (by omega)))
  (try (have : b5_13 < w8.heap.size + 1 := (by omega)))
  (try (have : b5_13 < w8.heap.size + 1 + 1 := (by omega)))
  (try (have : b5_14 < w8.heap.size := (by omega)))
  (try (have : b5_14 < w8.heap.size + 1 := (by omega)))
  (try (have : b5_14 < w8.heap.size + 1 + 1 := (by omega)))
  (try (have : b6_9 < w8.heap.size := (by omega)))
  (try (have : b6_9 < w8.heap.size + 1 := (by omega)))
  (try (have : b6_9 < w8.heap.size + 1 + 1 := (by omega)))
  (try (have : b6_10 < w8.heap.size := (by omega)))
  (try (have : b6_10 < w8.heap.size + 1 := (by omega)))
  (try (have : b6_10 < w8.heap.size + 1 + 1 := (by omega)))
  simp only [List.drop_succ_cons, List.drop_zero, List.drop_nil]
  go_wp2
  refine Free.wp_region 10 #[0, 1, 3, 0, 8, 31, 0, 0, 255, 511] (by kernel_rfl) (by kernel_rfl) ?_
  simp only [List.take_succ_cons, List.take_zero]
  iterate 6
    refine Free.E.q (by rfl) ?_
    apply Exists.intro
    refine ⟨fun u w' hc hb => ?_, ?_⟩
    go_simp
    (try go_ints); (try simp only [Ob.ite_imx, Ob.ite_imn]); first | exact rfl | (go_simp; exact rfl) | ((go_at_call 76; exact vectorOf_any _ _ _ _)) | (simp only [↓IntWalk.iteOmega]; (try go_simp); exact rfl)
    simp only [Act.put, List.setIfInBounds_toArray, List.set_cons_zero, List.set_cons_succ, List.nil_append, List.cons_append]
  refine Free.E.new (z := #[.int .i64 0, .int .i64 0, .int .i64 0]) (by rfl) rfl (by kernel_rfl) ?_
  simp only [Act.put, List.setIfInBounds_toArray, List.set_cons_zero, List.set_cons_succ, List.nil_append, List.cons_append]
  refine Free.E.new (z := #[.int .i64 0, .int .i64 0, .int .i64 0]) (by rfl) rfl (by kernel_rfl) ?_
  simp only [Act.put, List.setIfInBounds_toArray, List.set_cons_zero, List.set_cons_succ, List.nil_append, List.cons_append]
  refine Free.E.init (k := 6) (by rfl) (by rfl) rfl rfl (by rfl) (by decide) (by rfl) (fun _ => rfl) (fun _ => rfl) (by kernel_rfl) rfl rfl (by rfl) ?_
  simp only [List.nil_append, List.cons_append]
  refine Free.E.init (k := 7) (by rfl) (by rfl) rfl rfl (by rfl) (by decide) (by rfl) (fun _ => rfl) (fun _ => rfl) (by kernel_rfl) rfl rfl (by rfl) ?_
  simp only [List.nil_append, List.cons_append]
  refine Free.E.nil (fun u w9 S hF => ?_)
  have hb9 := hF.below
  obtain ⟨b9_6, hu9_6, hlo9_6, hhi9_6, -, hk9_6⟩ := hF.allocs 6 _ _ rfl
  simp only [Free.final, List.findSome?, reduceIte, Option.getD_some, Option.getD_none, Nat.reduceEqDiff, Value.cells] at hk9_6
  obtain ⟨b9_7, hu9_7, hlo9_7, hhi9_7, -, hk9_7⟩ := hF.allocs 7 _ _ rfl
  simp only [Free.final, List.findSome?, reduceIte, Option.getD_some, Option.getD_none, Nat.reduceEqDiff, Value.cells] at hk9_7
  have hne9_6_7 := hF.apart 6 7 _ _ _ _ rfl rfl (by decide)
  rw [hu9_6, hu9_7] at hne9_6_7
  replace hne9_6_7 := Free.ptr_ne hne9_6_7
  clear hF
  have hc9 := (Free.cells_of hb9).1
  have hf9 := (Free.cells_of hb9).2
  have hz9 := hb9.size
  simp only [hu9_6, hu9_7]
  have hcb9_6 := Free.cell_of_blk hk9_6
  have hfb9_6 := Free.frozen_of_blk hk9_6
  clear hu9_6 hk9_6
  have hcb9_7 := Free.cell_of_blk hk9_7
  have hfb9_7 := Free.frozen_of_blk hk9_7
  clear hu9_7 hk9_7
  try simp only [World.size_alloc, World.size_setCell, World.size_drew] at hz9 hlo9_6 hlo9_7
  (try (have : w.heap.size < w9.heap.size := (by omega)))
  (try (have : w.heap.size < w9.heap.size + 1 := (by omega)))
  (try (have : w.heap.size < w9.heap.size + 1 + 1 := (by omega)))
  (try (have : w.heap.size + 1 < w9.heap.size := (by omega)))
  (try (have : w.heap.size + 1 < w9.heap.size + 1 := (by omega)))
  (try (have : w.heap.size + 1 < w9.heap.size + 1 + 1 := (by omega)))
  (try (have : w.heap.size + 1 + 1 < w9.heap.size := (by omega)))
  (try (have : w.heap.size + 1 + 1 < w9.heap.size + 1 := (by omega)))
  (try (have : w.heap.size + 1 + 1 < w9.heap.size + 1 + 1 := (by omega)))
  (try (have : w.heap.size + 1 + 1 + 1 < w9.heap.size := (by omega)))
  (try (have : w.heap.size + 1 + 1 + 1 < w9.heap.size + 1 := (by omega)))
  (try (have : w.heap.size + 1 + 1 + 1 < w9.heap.size + 1 + 1 := (by omega)))
  (try (have : w1.heap.size < w9.heap.size := (by omega)))
  (try (have : w1.heap.size < w9.heap.size + 1 := (by omega)))
  (try (have : w1.heap.size < w9.heap.size + 1 + 1 := (by omega)))
  (try (have : w1.heap.size + 1 < w9.heap.size := (by omega)))
  (try (have : w1.heap.size + 1 < w9.heap.size + 1 := (by omega)))
  (try (have : w1.heap.size + 1 < w9.heap.size + 1 + 1 := (by omega)))
  (try (have : w1.heap.size + 1 + 1 < w9.heap.size := (by omega)))
  (try (have : w1.heap.size + 1 + 1 < w9.heap.size + 1 := (by omega)))
  (try (have : w1.heap.size + 1 + 1 < w9.heap.size + 1 + 1 := (by omega)))
  (try (have : w1.heap.size + 1 + 1 + 1 < w9.heap.size := (by omega)))
  (try (have : w1.heap.size + 1 + 1 + 1 < w9.heap.size + 1 := (by omega)))
  (try (have : w1.heap.size + 1 + 1 + 1 < w9.heap.size + 1 + 1 := (by omega)))
  (try (have : b < w9.heap.size := (by omega)))
  (try (have : b < w9.heap.size + 1 := (by omega)))
  (try (have : b < w9.heap.size + 1 + 1 := (by omega)))
  (try (have : b5_13 < w9.heap.size := (by omega)))
  (try (have : b5_13 < w9.heap.size + 1 := (by omega)))
  (try (have : b5_13 < w9.heap.size + 1 + 1 := (by omega)))
  (try (have : b5_14 < w9.heap.size := (by omega)))
  (try (have : b5_14 < w9.heap.size + 1 := (by omega)))
  (try (have : b5_14 < w9.heap.size + 1 + 1 := (by omega)))
  (try (have : b6_9 < w9.heap.size := (by omega)))
  (try (have : b6_9 < w9.heap.size + 1 := (by omega)))
  (try (have : b6_9 < w9.heap.size + 1 + 1 := (by omega)))
  (try (have : b6_10 < w9.heap.size := (by omega)))
  (try (have : b6_10 < w9.heap.size + 1 := (by omega)))
  (try (have : b6_10 < w9.heap.size + 1 + 1 := (by omega)))
  (try (have : b8_8 < w9.heap.size := (by omega)))
  (try (have : b8_8 < w9.heap.size + 1 := (by omega)))
  (try (have : b8_8 < w9.heap.size + 1 + 1 := (by omega)))
  simp only [List.drop_succ_cons, List.drop_zero, List.drop_nil]
  go_wp2
  refine wp_loop_rounds 4 ?_
  rw [rounds_succ]
  go_wp2
  have : b6_9 ≠ b8_8 := by omega
  have : b8_8 ≠ b6_9 := by omega
  have : b6_10 ≠ b8_8 := by omega
  have : b8_8 ≠ b6_10 := by omega
  have : b9_6 ≠ b8_8 := by omega
  have : b8_8 ≠ b9_6 := by omega
  have : b9_7 ≠ b8_8 := by omega
  have : b8_8 ≠ b9_7 := by omega
  refine Free.wp_region 11 #[0, 0, 0, 4, 12, 0, 32, 96, 254, 0, 1023, 2047] (by kernel_rfl) (by kernel_rfl) ?_
  simp only [List.take_succ_cons, List.take_zero]
  iterate 11
    refine Free.E.q (by rfl) ?_
    apply Exists.intro
    refine ⟨fun u w' hc hb => ?_, ?_⟩
    go_simp
    (try go_ints); (try simp only [Ob.ite_imx, Ob.ite_imn]); first | exact rfl | (go_simp; exact rfl) | ((go_at_call 132; exact Free.Calls.grow (mix_any _ _ _ _ (b1 - a1) (t - a1) _ (by go_simp) (by go_simp) ⟨hw0, hw1⟩ ⟨hp0, hp1⟩ (by omega) (by omega)))) | (simp only [↓IntWalk.iteOmega]; (try go_simp); exact rfl)
    simp only [Act.put, List.setIfInBounds_toArray, List.set_cons_zero, List.set_cons_succ, List.nil_append, List.cons_append]
  refine Free.E.nil (fun u wa S hF => ?_)
  have hba := hF.below
  clear hF
  have hca := (Free.cells_of hba).1
  have hfa := (Free.cells_of hba).2
  have hza := hba.size
  try simp only [World.size_alloc, World.size_setCell, World.size_drew] at hza
  (try (have : w.heap.size < wa.heap.size := (by omega)))
  (try (have : w.heap.size < wa.heap.size + 1 := (by omega)))
  (try (have : w.heap.size < wa.heap.size + 1 + 1 := (by omega)))
  (try (have : w.heap.size + 1 < wa.heap.size := (by omega)))
  (try (have : w.heap.size + 1 < wa.heap.size + 1 := (by omega)))
  (try (have : w.heap.size + 1 < wa.heap.size + 1 + 1 := (by omega)))
  (try (have : w.heap.size + 1 + 1 < wa.heap.size := (by omega)))
  (try (have : w.heap.size + 1 + 1 < wa.heap.size + 1 := (by omega)))
  (try (have : w.heap.size + 1 + 1 < wa.heap.size + 1 + 1 := (by omega)))
  (try (have : w.heap.size + 1 + 1 + 1 < wa.heap.size := (by omega)))
  (try (have : w.heap.size + 1 + 1 + 1 < wa.heap.size + 1 := (by omega)))
  (try (have : w.heap.size + 1 + 1 + 1 < wa.heap.size + 1 + 1 := (by omega)))
  (try (have : w1.heap.size < wa.heap.size := (by omega)))
  (try (have : w1.heap.size < wa.heap.size + 1 := (by omega)))
  (try (have : w1.heap.size < wa.heap.size + 1 + 1 := (by omega)))
  (try (have : w1.heap.size + 1 < wa.heap.size := (by omega)))
  (try (have : w1.heap.size + 1 < wa.heap.size + 1 := (by omega)))
  (try (have : w1.heap.size + 1 < wa.heap.size + 1 + 1 := (by omega)))
  (try (have : w1.heap.size + 1 + 1 < wa.heap.size := (by omega)))
  (try (have : w1.heap.size + 1 + 1 < wa.heap.size + 1 := (by omega)))
  (try (have : w1.heap.size + 1 + 1 < wa.heap.size + 1 + 1 := (by omega)))
  (try (have : w1.heap.size + 1 + 1 + 1 < wa.heap.size := (by omega)))
  (try (have : w1.heap.size + 1 + 1 + 1 < wa.heap.size + 1 := (by omega)))
  (try (have : w1.heap.size + 1 + 1 + 1 < wa.heap.size + 1 + 1 := (by omega)))
  (try (have : b < wa.heap.size := (by omega)))
  (try (have : b < wa.heap.size + 1 := (by omega)))
  (try (have : b < wa.heap.size + 1 + 1 := (by omega)))
  (try (have : b5_13 < wa.heap.size := (by omega)))
  (try (have : b5_13 < wa.heap.size + 1 := (by omega)))
  (try (have : b5_13 < wa.heap.size + 1 + 1 := (by omega)))
  (try (have : b5_14 < wa.heap.size := (by omega)))
  (try (have : b5_14 < wa.heap.size + 1 := (by omega)))
  (try (have : b5_14 < wa.heap.size + 1 + 1 := (by omega)))
  (try (have : b6_9 < wa.heap.size := (by omega)))
  (try (have : b6_9 < wa.heap.size + 1 := (by omega)))
  (try (have : b6_9 < wa.heap.size + 1 + 1 := (by omega)))
  (try (have : b6_10 < wa.heap.size := (by omega)))
  (try (have : b6_10 < wa.heap.size + 1 := (by omega)))
  (try (have : b6_10 < wa.heap.size + 1 + 1 := (by omega)))
  (try (have : b8_8 < wa.heap.size := (by omega)))
  (try (have : b8_8 < wa.heap.size + 1 := (by omega)))
  (try (have : b8_8 < wa.heap.size + 1 + 1 := (by omega)))
  (try (have : b9_6 < wa.heap.size := (by omega)))
  (try (have : b9_6 < wa.heap.size + 1 := (by omega)))
  (try (have : b9_6 < wa.heap.size + 1 + 1 := (by omega)))
  (try (have : b9_7 < wa.heap.size := (by omega)))
  (try (have : b9_7 < wa.heap.size + 1 := (by omega)))
  (try (have : b9_7 < wa.heap.size + 1 + 1 := (by omega)))
  simp only [List.drop_succ_cons, List.drop_zero, List.drop_nil]
  go_wp2
  rw [rounds_succ]
  go_wp2
  refine Free.wp_region 11 #[0, 0, 0, 4, 12, 0, 32, 96, 254, 0, 1023, 2047] (by kernel_rfl) (by kernel_rfl) ?_
  simp only [List.take_succ_cons, List.take_zero]
  iterate 11
    refine Free.E.q (by rfl) ?_
    apply Exists.intro
    refine ⟨fun u w' hc hb => ?_, ?_⟩
    go_simp
    (try go_ints); (try simp only [Ob.ite_imx, Ob.ite_imn]); first | exact rfl | (go_simp; exact rfl) | ((go_at_call 132; exact Free.Calls.grow (mix_any _ _ _ _ (b1 - a1) (t - a1) _ (by go_simp) (by go_simp) ⟨hw0, hw1⟩ ⟨hp0, hp1⟩ (by omega) (by omega)))) | (simp only [↓IntWalk.iteOmega]; (try go_simp); exact rfl)
    simp only [Act.put, List.setIfInBounds_toArray, List.set_cons_zero, List.set_cons_succ, List.nil_append, List.cons_append]
  refine Free.E.nil (fun u wb S hF => ?_)
  have hbb := hF.below
  clear hF
  have hcb := (Free.cells_of hbb).1
  have hfb := (Free.cells_of hbb).2
  have hzb := hbb.size
  try simp only [World.size_alloc, World.size_setCell, World.size_drew] at hzb
  (try (have : w.heap.size < wb.heap.size := (by omega)))
  (try (have : w.heap.size < wb.heap.size + 1 := (by omega)))
  (try (have : w.heap.size < wb.heap.size + 1 + 1 := (by omega)))
  (try (have : w.heap.size + 1 < wb.heap.size := (by omega)))
  (try (have : w.heap.size + 1 < wb.heap.size + 1 := (by omega)))
  (try (have : w.heap.size + 1 < wb.heap.size + 1 + 1 := (by omega)))
  (try (have : w.heap.size + 1 + 1 < wb.heap.size := (by omega)))
  (try (have : w.heap.size + 1 + 1 < wb.heap.size + 1 := (by omega)))
  (try (have : w.heap.size + 1 + 1 < wb.heap.size + 1 + 1 := (by omega)))
  (try (have : w.heap.size + 1 + 1 + 1 < wb.heap.size := (by omega)))
  (try (have : w.heap.size + 1 + 1 + 1 < wb.heap.size + 1 := (by omega)))
  (try (have : w.heap.size + 1 + 1 + 1 < wb.heap.size + 1 + 1 := (by omega)))
  (try (have : w1.heap.size < wb.heap.size := (by omega)))
  (try (have : w1.heap.size < wb.heap.size + 1 := (by omega)))
  (try (have : w1.heap.size < wb.heap.size + 1 + 1 := (by omega)))
  (try (have : w1.heap.size + 1 < wb.heap.size := (by omega)))
  (try (have : w1.heap.size + 1 < wb.heap.size + 1 := (by omega)))
  (try (have : w1.heap.size + 1 < wb.heap.size + 1 + 1 := (by omega)))
  (try (have : w1.heap.size + 1 + 1 < wb.heap.size := (by omega)))
  (try (have : w1.heap.size + 1 + 1 < wb.heap.size + 1 := (by omega)))
  (try (have : w1.heap.size + 1 + 1 < wb.heap.size + 1 + 1 := (by omega)))
  (try (have : w1.heap.size + 1 + 1 + 1 < wb.heap.size := (by omega)))
  (try (have : w1.heap.size + 1 + 1 + 1 < wb.heap.size + 1 := (by omega)))
  (try (have : w1.heap.size + 1 + 1 + 1 < wb.heap.size + 1 + 1 := (by omega)))
  (try (have : b < wb.heap.size := (by omega)))
  (try (have : b < wb.heap.size + 1 := (by omega)))
  (try (have : b < wb.heap.size + 1 + 1 := (by omega)))
  (try (have : b5_13 < wb.heap.size := (by omega)))
  (try (have : b5_13 < wb.heap.size + 1 := (by omega)))
  (try (have : b5_13 < wb.heap.size + 1 + 1 := (by omega)))
  (try (have : b5_14 < wb.heap.size := (by omega)))
  (try (have : b5_14 < wb.heap.size + 1 := (by omega)))
  (try (have : b5_14 < wb.heap.size + 1 + 1 := (by omega)))
  (try (have : b6_9 < wb.heap.size := (by omega)))
  (try (have : b6_9 < wb.heap.size + 1 := (by omega)))
  (try (have : b6_9 < wb.heap.size + 1 + 1 := (by omega)))
  (try (have : b6_10 < wb.heap.size := (by omega)))
  (try (have : b6_10 < wb.heap.size + 1 := (by omega)))
  (try (have : b6_10 < wb.heap.size + 1 + 1 := (by omega)))
  (try (have : b8_8 < wb.heap.size := (by omega)))
  (try (have : b8_8 < wb.heap.size + 1 := (by omega)))
  (try (have : b8_8 < wb.heap.size + 1 + 1 := (by omega)))
  (try (have : b9_6 < wb.heap.size := (by omega)))
  (try (have : b9_6 < wb.heap.size + 1 := (by omega)))
  (try (have : b9_6 < wb.heap.size + 1 + 1 := (by omega)))
  (try (have : b9_7 < wb.heap.size := (by omega)))
  (try (have : b9_7 < wb.heap.size + 1 := (by omega)))
  (try (have : b9_7 < wb.heap.size + 1 + 1 := (by omega)))
  simp only [List.drop_succ_cons, List.drop_zero, List.drop_nil]
  go_wp2
  rw [rounds_succ]
  go_wp2
  refine Free.wp_region 11 #[0, 0, 0, 4, 12, 0, 32, 96, 254, 0, 1023, 2047] (by kernel_rfl) (by kernel_rfl) ?_
  simp only [List.take_succ_cons, List.take_zero]
  iterate 11
    refine Free.E.q (by rfl) ?_
    apply Exists.intro
    refine ⟨fun u w' hc hb => ?_, ?_⟩
    go_simp
    (try go_ints); (try simp only [Ob.ite_imx, Ob.ite_imn]); first | exact rfl | (go_simp; exact rfl) | ((go_at_call 132; exact Free.Calls.grow (mix_any _ _ _ _ (b1 - a1) (t - a1) _ (by go_simp) (by go_simp) ⟨hw0, hw1⟩ ⟨hp0, hp1⟩ (by omega) (by omega)))) | (simp only [↓IntWalk.iteOmega]; (try go_simp); exact rfl)
    simp only [Act.put, List.setIfInBounds_toArray, List.set_cons_zero, List.set_cons_succ, List.nil_append, List.cons_append]
  refine Free.E.nil (fun u wc S hF => ?_)
  have hbc := hF.below
  clear hF
  have hcc := (Free.cells_of hbc).1
  have hfc := (Free.cells_of hbc).2
  have hzc := hbc.size
  try simp only [World.size_alloc, World.size_setCell, World.size_drew] at hzc
  (try (have : w.heap.size < wc.heap.size := (by omega)))
  (try (have : w.heap.size < wc.heap.size + 1 := (by omega)))
  (try (have : w.heap.size < wc.heap.size + 1 + 1 := (by omega)))
  (try (have : w.heap.size + 1 < wc.heap.size := (by omega)))
  (try (have : w.heap.size + 1 < wc.heap.size + 1 := (by omega)))
  (try (have : w.heap.size + 1 < wc.heap.size + 1 + 1 := (by omega)))
  (try (have : w.heap.size + 1 + 1 < wc.heap.size := (by omega)))
  (try (have : w.heap.size + 1 + 1 < wc.heap.size + 1 := (by omega)))
  (try (have : w.heap.size + 1 + 1 < wc.heap.size + 1 + 1 := (by omega)))
  (try (have : w.heap.size + 1 + 1 + 1 < wc.heap.size := (by omega)))
  (try (have : w.heap.size + 1 + 1 + 1 < wc.heap.size + 1 := (by omega)))
  (try (have : w.heap.size + 1 + 1 + 1 < wc.heap.size + 1 + 1 := (by omega)))
  (try (have : w1.heap.size < wc.heap.size := (by omega)))
  (try (have : w1.heap.size < wc.heap.size + 1 := (by omega)))
  (try (have : w1.heap.size < wc.heap.size + 1 + 1 := (by omega)))
  (try (have : w1.heap.size + 1 < wc.heap.size := (by omega)))
  (try (have : w1.heap.size + 1 < wc.heap.size + 1 := (by omega)))
  (try (have : w1.heap.size + 1 < wc.heap.size + 1 + 1 := (by omega)))
  (try (have : w1.heap.size + 1 + 1 < wc.heap.size := (by omega)))
  (try (have : w1.heap.size + 1 + 1 < wc.heap.size + 1 := (by omega)))
  (try (have : w1.heap.size + 1 + 1 < wc.heap.size + 1 + 1 := (by omega)))
  (try (have : w1.heap.size + 1 + 1 + 1 < wc.heap.size := (by omega)))
  (try (have : w1.heap.size + 1 + 1 + 1 < wc.heap.size + 1 := (by omega)))
  (try (have : w1.heap.size + 1 + 1 + 1 < wc.heap.size + 1 + 1 := (by omega)))
  (try (have : b < wc.heap.size := (by omega)))
  (try (have : b < wc.heap.size + 1 := (by omega)))
  (try (have : b < wc.heap.size + 1 + 1 := (by omega)))
  (try (have : b5_13 < wc.heap.size := (by omega)))
  (try (have : b5_13 < wc.heap.size + 1 := (by omega)))
  (try (have : b5_13 < wc.heap.size + 1 + 1 := (by omega)))
  (try (have : b5_14 < wc.heap.size := (by omega)))
  (try (have : b5_14 < wc.heap.size + 1 := (by omega)))
  (try (have : b5_14 < wc.heap.size + 1 + 1 := (by omega)))
  (try (have : b6_9 < wc.heap.size := (by omega)))
  (try (have : b6_9 < wc.heap.size + 1 := (by omega)))
  (try (have : b6_9 < wc.heap.size + 1 + 1 := (by omega)))
  (try (have : b6_10 < wc.heap.size := (by omega)))
  (try (have : b6_10 < wc.heap.size + 1 := (by omega)))
  (try (have : b6_10 < wc.heap.size + 1 + 1 := (by omega)))
  (try (have : b8_8 < wc.heap.size := (by omega)))
  (try (have : b8_8 < wc.heap.size + 1 := (by omega)))
  (try (have : b8_8 < wc.heap.size + 1 + 1 := (by omega)))
  (try (have : b9_6 < wc.heap.size := (by omega)))
  (try (have : b9_6 < wc.heap.size + 1 := (by omega)))
  (try (have : b9_6 < wc.heap.size + 1 + 1 := (by omega)))
  (try (have : b9_7 < wc.heap.size := (by omega)))
  (try (have : b9_7 < wc.heap.size + 1 := (by omega)))
  (try (have : b9_7 < wc.heap.size + 1 + 1 := (by omega)))
  simp only [List.drop_succ_cons, List.drop_zero, List.drop_nil]
  go_wp2
  rw [rounds_succ]
  go_wp2
  refine bodyPost_ret (v := ptV (ptB ⟨a1, a2, a3, a4, a5⟩ ⟨b1, b2, b3, b4, b5⟩ t)) (by simp [results, Tryz.results104, go_sem, ptB, *]) rfl ?_
  exact ⟨by rw [HP.out], by repeat' first | with_reducible exact Below.refl _ _ | with_reducible assumption | with_reducible refine Free.Grow.alloc ?_ _ | with_reducible refine Free.Grow.setCell ?_ (by first | omega | (simp; done) | (simp; omega)) _ | with_reducible refine Free.Grow.drew ?_ | with_reducible refine Free.Grow.trans ?_ (by assumption)⟩

theorem point_any (nm : ByteArray) (bd t : Int) (b off cap : Nat) (l : List St) (w : World) (hR : Right bd l) (h0 : frstT l ≤ t) (h1 : t ≤ lastT l) (hS : HasSts w b off l) (hbw : b < w.heap.size) (hcap : l.length ≤ cap) :
    Calls Tryz.prog 104 #[obV nm bd (some ⟨b, off, none⟩) l.length cap, .int .i64 t] w fun e w' => e = .returned (ptV (pt l t)) ∧ Below w.heap.size w w' := by
  by_cases hf : (at_ l (idx l t)).t = t
  · exact point_found nm bd t b off cap l w hR h0 h1 hS hbw hcap hf
  · exact point_bent nm bd t b off cap l w hR h0 h1 hS hbw hcap hf
end Go.Proofs.YthhhkjbhhjcjoaaGreatDoor
