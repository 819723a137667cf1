/- Chapter 2: Nearest of the program. -/
import Derived.Test.YthhhkjbhhjcjoaaGreatDoor02z
import Derived.Test.YthhhkjbhhjcjoaaGreatDoorFreeEach
set_option linter.unusedSimpArgs false
set_option linter.unusedVariables false
namespace Go.Proofs.YthhhkjbhhjcjoaaGreatDoor
open Go.RowKit Go.Ob Go.Shelf
attribute [local go_sem] Oper.semAt_some

theorem nom_bd {bd : Int} {l : List St} (hR : Right bd l) {t : Int} (h0 : frstT l ≤ t) (h1 : t ≤ lastT l) :
    (-100000000 ≤ (nom l t).x ∧ (nom l t).x ≤ 100000000) ∧ (-100000000 ≤ (nom l t).y ∧ (nom l t).y ≤ 100000000) ∧ (-100000000 ≤ (nom l t).z ∧ (nom l t).z ≤ 100000000) := by
  obtain ⟨hk1, hk2, hk3⟩ := kR_spec hR h0 h1
  have hup := hR.up (kR l t) hk1
  have hoka := hR.ok (kR l t) (by omega)
  have hokb := hR.ok (kR l t + 1) (by omega)
  rw [← (same_place hR h0 h1).1]
  unfold ptR
  generalize at_ l (kR l t) = a at *
  generalize at_ l (kR l t + 1) = b at *
  obtain ⟨p1, p2, p3, p4, p5⟩ := a
  obtain ⟨q1, q2, q3, q4, q5⟩ := b
  obtain ⟨oa1, oa2, oa3, oa4, oa5, oa6, oa7, oa8, oa9, oa10⟩ := hoka
  obtain ⟨ob1, ob2, ob3, ob4, ob5, ob6, ob7, ob8, ob9, ob10⟩ := hokb
  simp only at *
  have hs : q1 - p1 - (t - p1) + (t - p1) = q1 - p1 := by omega
  have m1 := mix_in (M := 100000000) (by omega) oa3 oa4 ob3 ob4 (s := q1 - p1 - (t - p1)) (t := t - p1) (by omega) (by omega)
  have m2 := mix_in (M := 100000000) (by omega) oa5 oa6 ob5 ob6 (s := q1 - p1 - (t - p1)) (t := t - p1) (by omega) (by omega)
  have m3 := mix_in (M := 100000000) (by omega) oa7 oa8 ob7 ob8 (s := q1 - p1 - (t - p1)) (t := t - p1) (by omega) (by omega)
  rw [hs] at m1 m2 m3
  have hd : 1 ≤ q1 - p1 := by omega
  exact ⟨rd_bd hd m1.1 m1.2, rd_bd hd m2.1 m2.2, rd_bd hd m3.1 m3.2⟩

theorem dsq_bd {p : P3} {x y z : Int} (hp : (-100000000 ≤ p.x ∧ p.x ≤ 100000000) ∧ (-100000000 ≤ p.y ∧ p.y ≤ 100000000) ∧ (-100000000 ≤ p.z ∧ p.z ≤ 100000000))
    (hx : -100000000 ≤ x ∧ x ≤ 100000000) (hy : -100000000 ≤ y ∧ y ≤ 100000000) (hz : -100000000 ≤ z ∧ z ≤ 100000000) :
    (0 ≤ (p.x - x) * (p.x - x) ∧ (p.x - x) * (p.x - x) ≤ 40000000000000000) ∧ (0 ≤ (p.y - y) * (p.y - y) ∧ (p.y - y) * (p.y - y) ≤ 40000000000000000) ∧ (0 ≤ (p.z - z) * (p.z - z) ∧ (p.z - z) * (p.z - z) ≤ 40000000000000000) := by
  have a := sq_bd (n := p.x - x) (M := 200000000) (by omega) (by omega)
  have b := sq_bd (n := p.y - y) (M := 200000000) (by omega) (by omega)
  have c := sq_bd (n := p.z - z) (M := 200000000) (by omega) (by omega)
  omega

theorem nearTo_bd {f : Int → Int} {a : Int} {N : Nat} (h : ∀ k, k < N → 0 ≤ f (a + k) ∧ f (a + k) ≤ 120000000000000000) : ∀ k, k ≤ N → -1 ≤ (nearTo f a k).2 ∧ (nearTo f a k).2 ≤ 120000000000000000
  | 0, _ => by simp [nearTo]
  | k + 1, hk => by
    have ih := nearTo_bd h k (by omega)
    have := h k (by omega)
    simp only [nearTo]
    split <;> (first | exact ih | (simp only; omega))

set_option maxRecDepth 100000 in
set_option maxHeartbeats 2000000 in
theorem Nearest_any (nm : ByteArray) (bd x y z : Int) (a : Option Addr) (cap : Nat) (l : List St) (w : World) (hO : OrbIn w nm a cap l) :
    Calls Tryz.prog 32 #[obV nm bd a l.length cap, v3 x y z] w fun e w' => e = .returned (.tuple #[.int .i64 (nearOr nm.data.toList bd l x y z).1, .int .i64 (nearOr nm.data.toList bd l x y z).2, .int .i64 (plE nm.data.toList bd l x y z)]) ∧ Below w.heap.size w w' := by
  have HA := Lib.hid (fun w' (h : OrbIn w' nm a cap l) => pathOf_any nm bd a cap l w' h.nm h.sts h.cap h.len)
  by_cases h : plE nm.data.toList bd l x y z = 0
  · have h2 := (firstE_two _ _).1 h
    have hR := (orbE_right h2.1).1
    obtain ⟨hx, hy, hz⟩ := placeE_zero h2.2
    obtain ⟨b, off, rfl, hbw, hmem⟩ := hO.mem hR
    have HNN : Hid ((nTicks l : Int) = lastT l + 1 - frstT l) := by
      have hl := hR.n2
      have hle := hR.le 0 (l.length - 1) (by omega) (by omega)
      have : frstT l ≤ lastT l := hle
      unfold nTicks; show _ = _; omega
    have HN : nearOr nm.data.toList bd l x y z = nearTo (nsq l x y z) (frstT l) (nTicks l) := by unfold nearOr; rw [if_pos h]
    rw [HN, h]
    clear HN
    have HND := Lib.hid (fun (k : Nat) (hk : k < nTicks l) => dsq_bd (nom_bd hR (t := frstT l + k) (by omega) (by have := HNN.out; omega)) hx hy hz)
    have HNB := Lib.hid (fun (k : Nat) (hk : k < nTicks l) => nom_bd hR (t := frstT l + k) (by omega) (by have := HNN.out; omega))
    have HNT := Lib.hid (nearTo_bd (f := nsq l x y z) (a := frstT l) (N := nTicks l) (fun k hk => by have := HND.out k hk; unfold nsq dsq; omega))
    have HC := Lib.hid (fun w' (k : Nat) (hk : k < nTicks l) (hS' : HasSts w' b off l) (hb' : b < w'.heap.size) => nominal_any nm bd (frstT l + k) b off cap l w' hR (by omega) (by have := HNN.out; omega) hS' hb' hO.cap)
    have HEA := Lib.hid (fun w' (n₂ : Nat) (hw : w.heap.size ≤ n₂) (hw' : w.heap.size ≤ w'.heap.size) (hS' : HasSts w' b off l) => each_in 7 (by omega) nm bd b off cap l w' hR w.heap.size n₂ hS' hbw hw hw' hO.cap)
    have HO := Lib.hid hO
    have HM := Lib.hid hmem
    have hE0 : (firstE [(orbE nm.data.toList bd l).2, placeE x y z] != 0) = false := by rw [show firstE [(orbE nm.data.toList bd l).2, placeE x y z] = 0 from h]; rfl
    clear h hO h2 hmem
    generalize (orbE nm.data.toList bd l).2 = c at *
    generalize nTicks l = N at *
    refine Calls.made fun R HR => ?_
    (refine Free.calls_of_each Tryz.func32 rfl ?_; simp only [Tryz.ntmps32, List.size_toArray, List.length_cons, List.length_nil, Nat.reduceAdd, Nat.reduceSub, Array.replicate_succ, Array.replicate_zero, List.push_toArray, List.append_toArray, List.nil_append, List.cons_append])
    go_wp2_with (first | (go_at_call 62; refine (HA.out _ (HO.out.below (by repeat' first | with_reducible exact Below.refl _ _ | with_reducible assumption | with_reducible refine Free.Grow.alloc ?_ _ | with_reducible refine Free.Grow.setCell ?_ (by first | omega | (simp; done) | (simp; omega)) _ | with_reducible refine Free.Grow.drew ?_ | with_reducible refine Free.Grow.trans ?_ (by assumption)))).mono ?_; rintro e w1 ⟨rfl, hb1⟩; have hc1 := (Free.cells_of hb1).1; have hf1 := (Free.cells_of hb1).2; have hz1 := hb1.size; (try simp only [World.size_alloc, World.size_setCell, World.size_drew] at hz1); (try (have : w.heap.size < w1.heap.size := (by omega))); (try (have : w.heap.size < w1.heap.size + 1 := (by omega))); (try (have : w.heap.size < w1.heap.size + 1 + 1 := (by omega))); (try (have : w.heap.size + 1 < w1.heap.size := (by omega))); (try (have : w.heap.size + 1 < w1.heap.size + 1 := (by omega))); (try (have : w.heap.size + 1 < w1.heap.size + 1 + 1 := (by omega))); (try (have : w.heap.size + 1 + 1 < w1.heap.size := (by omega))); (try (have : w.heap.size + 1 + 1 < w1.heap.size + 1 := (by omega))); (try (have : w.heap.size + 1 + 1 < w1.heap.size + 1 + 1 := (by omega))); (try (have : w.heap.size + 1 + 1 + 1 < w1.heap.size := (by omega))); (try (have : w.heap.size + 1 + 1 + 1 < w1.heap.size + 1 := (by omega))); (try (have : w.heap.size + 1 + 1 + 1 < w1.heap.size + 1 + 1 := (by omega)))) | (go_at_call 74; refine (checkPlace_any _ _ _ _).mono ?_; rintro e w2 ⟨rfl, hb2⟩; have hc2 := (Free.cells_of hb2).1; have hf2 := (Free.cells_of hb2).2; have hz2 := hb2.size; (try simp only [World.size_alloc, World.size_setCell, World.size_drew] at hz2); (try (have : w.heap.size < w2.heap.size := (by omega))); (try (have : w.heap.size < w2.heap.size + 1 := (by omega))); (try (have : w.heap.size < w2.heap.size + 1 + 1 := (by omega))); (try (have : w.heap.size + 1 < w2.heap.size := (by omega))); (try (have : w.heap.size + 1 < w2.heap.size + 1 := (by omega))); (try (have : w.heap.size + 1 < w2.heap.size + 1 + 1 := (by omega))); (try (have : w.heap.size + 1 + 1 < w2.heap.size := (by omega))); (try (have : w.heap.size + 1 + 1 < w2.heap.size + 1 := (by omega))); (try (have : w.heap.size + 1 + 1 < w2.heap.size + 1 + 1 := (by omega))); (try (have : w.heap.size + 1 + 1 + 1 < w2.heap.size := (by omega))); (try (have : w.heap.size + 1 + 1 + 1 < w2.heap.size + 1 := (by omega))); (try (have : w.heap.size + 1 + 1 + 1 < w2.heap.size + 1 + 1 := (by omega))); (try (have : w1.heap.size < w2.heap.size := (by omega))); (try (have : w1.heap.size < w2.heap.size + 1 := (by omega))); (try (have : w1.heap.size < w2.heap.size + 1 + 1 := (by omega))); (try (have : w1.heap.size + 1 < w2.heap.size := (by omega))); (try (have : w1.heap.size + 1 < w2.heap.size + 1 := (by omega))); (try (have : w1.heap.size + 1 < w2.heap.size + 1 + 1 := (by omega))); (try (have : w1.heap.size + 1 + 1 < w2.heap.size := (by omega))); (try (have : w1.heap.size + 1 + 1 < w2.heap.size + 1 := (by omega))); (try (have : w1.heap.size + 1 + 1 < w2.heap.size + 1 + 1 := (by omega))); (try (have : w1.heap.size + 1 + 1 + 1 < w2.heap.size := (by omega))); (try (have : w1.heap.size + 1 + 1 + 1 < w2.heap.size + 1 := (by omega))); (try (have : w1.heap.size + 1 + 1 + 1 < w2.heap.size + 1 + 1 := (by omega)))) | (go_at_call 63; refine (first2_any _ c (placeE x y z) _ (by simp [go_sem]) (by simp [go_sem])).mono ?_; rintro e w' ⟨rfl, rfl⟩))
    have hp1 := hb1.size
    have hp2 := hb2.size
    simp only [World.size_alloc] at hp1 hp2
    refine Free.wp_each (d := 11) (gf := 77) (fb := #[obV nm bd (some ⟨b, off, none⟩) l.length cap]) (v := fun k => .int .i64 (frstT l + k)) (N := N) (n₀ := w.heap.size) rfl (enters_of Tryz.func77 (by kernel_rfl) rfl)
      (HEA.out _ _ (by simp; omega) (by simp; omega) (HM.out.below (B := w.heap.size) (by repeat' first | with_reducible exact Below.refl _ _ | with_reducible assumption | with_reducible refine Free.Grow.alloc ?_ _ | with_reducible refine Free.Grow.setCell ?_ (by first | omega | (simp; done) | (simp; omega)) _ | with_reducible refine Free.Grow.drew ?_ | with_reducible refine Free.Grow.trans ?_ (by assumption)) hbw)) (by simp; omega)
      (fun k W => Below w.heap.size w W ∧ W.heap[w1.heap.size]? = some (.cells #[.string nm, .int .i64 bd, .slice (some ⟨b, off, none⟩) l.length cap] 123 (0, 0)) ∧ W.heap[w.heap.size + 1]? = some (.cells #[.int .i64 x, .int .i64 y, .int .i64 z] 23 (0, 0)) ∧
        W.heap[w2.heap.size + 1]? = some (.cells #[.int .i64 (nearTo (nsq l x y z) (frstT l) k).1] 3 (0, 0)) ∧ W.heap[w2.heap.size + 1 + 1]? = some (.cells #[.int .i64 (nearTo (nsq l x y z) (frstT l) k).2] 3 (0, 0)))
      (fun _ _ => False) (Free.Bides.and (Free.Bides.below (Nat.le_refl _) (by simp; omega)) (Free.Bides.and (Free.Bides.block (fun _ => _) (by simp; omega)) (Free.Bides.and (Free.Bides.block (fun _ => _) (by simp; omega)) (Free.Bides.and (Free.Bides.block (fun k => .cells #[.int .i64 (nearTo (nsq l x y z) (frstT l) k).1] 3 (0, 0)) (by simp)) (Free.Bides.block (fun k => .cells #[.int .i64 (nearTo (nsq l x y z) (frstT l) k).2] 3 (0, 0)) (by simp))))))
      Free.Bides.none ?h0 ?assign ?body ?done (fun _ _ _ _ _ h _ => h.elim)
    case h0 => exact ⟨by repeat' first | with_reducible exact Below.refl _ _ | with_reducible assumption | with_reducible refine Free.Grow.alloc ?_ _ | with_reducible refine Free.Grow.setCell ?_ (by first | omega | (simp; done) | (simp; omega)) _ | with_reducible refine Free.Grow.drew ?_ | with_reducible refine Free.Grow.trans ?_ (by assumption), by repeat' first | with_reducible assumption | with_reducible exact Free.blk_new _ (by first | rfl | (simp; done)) | with_reducible refine Free.blk_alloc_old ?_ | with_reducible refine Free.blk_drew ?_ | with_reducible refine Free.blk_setCell_far ?_ (by first | omega | (simp; done) | (simp; omega)) _ | with_reducible apply Free.blk_setCell_to | (show Array.setIfInBounds _ _ _ = _; first | exact rfl | (simp; done)) | with_reducible refine Free.blk_below ?_ (by assumption), by repeat' first | with_reducible assumption | with_reducible exact Free.blk_new _ (by first | rfl | (simp; done)) | with_reducible refine Free.blk_alloc_old ?_ | with_reducible refine Free.blk_drew ?_ | with_reducible refine Free.blk_setCell_far ?_ (by first | omega | (simp; done) | (simp; omega)) _ | with_reducible apply Free.blk_setCell_to | (show Array.setIfInBounds _ _ _ = _; first | exact rfl | (simp; done)) | with_reducible refine Free.blk_below ?_ (by assumption), by simp only [nearTo_zero]; repeat' first | with_reducible assumption | with_reducible exact Free.blk_new _ (by first | rfl | (simp; done)) | with_reducible refine Free.blk_alloc_old ?_ | with_reducible refine Free.blk_drew ?_ | with_reducible refine Free.blk_setCell_far ?_ (by first | omega | (simp; done) | (simp; omega)) _ | with_reducible apply Free.blk_setCell_to | (show Array.setIfInBounds _ _ _ = _; first | exact rfl | (simp; done)) | with_reducible refine Free.blk_below ?_ (by assumption), by simp only [nearTo_zero]; repeat' first | with_reducible assumption | with_reducible exact Free.blk_new _ (by first | rfl | (simp; done)) | with_reducible refine Free.blk_alloc_old ?_ | with_reducible refine Free.blk_drew ?_ | with_reducible refine Free.blk_setCell_far ?_ (by first | omega | (simp; done) | (simp; omega)) _ | with_reducible apply Free.blk_setCell_to | (show Array.setIfInBounds _ _ _ = _; first | exact rfl | (simp; done)) | with_reducible refine Free.blk_below ?_ (by assumption)⟩
    case assign =>
      intro lp k W K hK
      simp only [Free.setTo, List.setIfInBounds_toArray, List.set_cons_zero, List.set_cons_succ] at hK ⊢
      gi_wp2
      exact hK
    case body =>
      rintro lp k W hWz ⟨hBW, k7, k3, k9, k10⟩ hk
      have hnd := HND.out k hk
      have hnb := HNB.out k hk
      have hnt := HNT.out k (by omega)
      have c7 := Free.cell_of_blk k7
      have c3 := Free.cell_of_blk k3
      have c9 := Free.cell_of_blk k9
      have c10 := Free.cell_of_blk k10
      have l7 := Free.lt_of_blk k7
      have l3 := Free.lt_of_blk k3
      have l9 := Free.lt_of_blk k9
      have l10 := Free.lt_of_blk k10
      have f9 := Free.frozen_of_blk k9
      have f10 := Free.frozen_of_blk k10
      have hWs := hBW.size
      have HCk := Lib.hid (fun w' => HC.out w' k hk)
      have hEq : Hid (nsq l x y z (frstT l + k) = ((nom l (frstT l + k)).x - x) * ((nom l (frstT l + k)).x - x) + ((nom l (frstT l + k)).y - y) * ((nom l (frstT l + k)).y - y) + ((nom l (frstT l + k)).z - z) * ((nom l (frstT l + k)).z - z)) := rfl
      have HYes := Lib.hid (nearTo_yes (f := nsq l x y z) (a := frstT l) (k := k))
      have HNo := Lib.hid (nearTo_no (f := nsq l x y z) (a := frstT l) (k := k))
      have HS := Lib.hid (HM.out.below (B := w.heap.size) hBW hbw)
      simp only [World.size_alloc] at hWz
      simp only [Free.setTo, List.setIfInBounds_toArray, List.set_cons_zero, List.set_cons_succ]
      generalize (nearTo (nsq l x y z) (frstT l) k) = q at *
      obtain ⟨q1, q2⟩ := q
      simp only at hnt c9 c10 HYes HNo
      generalize nom l (frstT l + k) = p at *
      obtain ⟨px, py, pz⟩ := p
      simp only [p3V] at hnd hnb hEq HCk ⊢
      by_cases hA : q2 < 0 ∨ (px - x) * (px - x) + (py - y) * (py - y) + (pz - z) * (pz - z) < q2
      · have HI := Lib.hid (HYes.out (by rw [hEq.out]; exact hA))
        rw [hEq.out] at HI
        clear HYes HNo hEq
        rcases hA with hA | hA
        all_goals
          gi_wp2
          refine Free.wpIn_region 8 #[0, 0, 3, 0, 15, 31, 0, 127] (by kernel_rfl) (by kernel_rfl) (by rintro ⟨_, _, h⟩; exact h) ?_
          simp only [List.take_succ_cons, List.take_zero]
          iterate 6
            refine Free.E.q (by rfl) ?_
            apply Exists.intro
            refine ⟨fun u w' hc hb => ?_, ?_⟩
            go_simp
            (try go_ints); (try simp only [Ob.ite_imx, Ob.ite_imn]); first | exact rfl | (go_simp; exact rfl) | ((go_at_call 78; exact HCk.out _ (HS.out.below (B := W.heap.size) hb (by omega)) (by have := hb.size; omega))) | ((go_at_call 76; exact vectorOf_any _ _ _ _)) | ((go_at_call 79; exact less_any _ _ _ _ _ _ _ (by omega) (by omega) (by omega))) | (simp only [↓IntWalk.iteOmega]; (try go_simp); exact rfl)
            simp only [Act.put, List.setIfInBounds_toArray, List.set_cons_zero, List.set_cons_succ, List.nil_append, List.cons_append]
          refine Free.E.new (z := #[.int .i64 0, .int .i64 0, .int .i64 0]) (by rfl) rfl (by kernel_rfl) ?_
          simp only [Act.put, List.setIfInBounds_toArray, List.set_cons_zero, List.set_cons_succ, List.nil_append, List.cons_append]
          refine Free.E.init (k := 6) (by rfl) (by rfl) rfl rfl (by rfl) (by decide) (by rfl) (fun _ => rfl) (fun _ => rfl) (by kernel_rfl) rfl rfl (by rfl) ?_
          simp only [List.nil_append, List.cons_append]
          refine Free.E.nil (fun u w3 S hF => ?_)
          have hb3 := hF.below
          obtain ⟨b3_6, hu3_6, hlo3_6, hhi3_6, -, hk3_6⟩ := hF.allocs 6 _ _ rfl
          simp only [Free.final, List.findSome?, reduceIte, Option.getD_some, Option.getD_none, Nat.reduceEqDiff, Value.cells] at hk3_6
          clear hF
          have hc3 := (Free.cells_of hb3).1
          have hf3 := (Free.cells_of hb3).2
          have hz3 := hb3.size
          simp only [hu3_6]
          have hcb3_6 := Free.cell_of_blk hk3_6
          have hfb3_6 := Free.frozen_of_blk hk3_6
          clear hu3_6 hk3_6
          try simp only [World.size_alloc, World.size_setCell, World.size_drew] at hz3 hlo3_6
          (try (have : w.heap.size < w3.heap.size := (by omega)))
          (try (have : w.heap.size < w3.heap.size + 1 := (by omega)))
          (try (have : w.heap.size < w3.heap.size + 1 + 1 := (by omega)))
          (try (have : w.heap.size + 1 < w3.heap.size := (by omega)))
          (try (have : w.heap.size + 1 < w3.heap.size + 1 := (by omega)))
          (try (have : w.heap.size + 1 < w3.heap.size + 1 + 1 := (by omega)))
          (try (have : w.heap.size + 1 + 1 < w3.heap.size := (by omega)))
          (try (have : w.heap.size + 1 + 1 < w3.heap.size + 1 := (by omega)))
          (try (have : w.heap.size + 1 + 1 < w3.heap.size + 1 + 1 := (by omega)))
          (try (have : w.heap.size + 1 + 1 + 1 < w3.heap.size := (by omega)))
          (try (have : w.heap.size + 1 + 1 + 1 < w3.heap.size + 1 := (by omega)))
          (try (have : w.heap.size + 1 + 1 + 1 < w3.heap.size + 1 + 1 := (by omega)))
          (try (have : w1.heap.size < w3.heap.size := (by omega)))
          (try (have : w1.heap.size < w3.heap.size + 1 := (by omega)))
          (try (have : w1.heap.size < w3.heap.size + 1 + 1 := (by omega)))
          (try (have : w1.heap.size + 1 < w3.heap.size := (by omega)))
          (try (have : w1.heap.size + 1 < w3.heap.size + 1 := (by omega)))
          (try (have : w1.heap.size + 1 < w3.heap.size + 1 + 1 := (by omega)))
          (try (have : w1.heap.size + 1 + 1 < w3.heap.size := (by omega)))
          (try (have : w1.heap.size + 1 + 1 < w3.heap.size + 1 := (by omega)))
          (try (have : w1.heap.size + 1 + 1 < w3.heap.size + 1 + 1 := (by omega)))
          (try (have : w1.heap.size + 1 + 1 + 1 < w3.heap.size := (by omega)))
          (try (have : w1.heap.size + 1 + 1 + 1 < w3.heap.size + 1 := (by omega)))
          (try (have : w1.heap.size + 1 + 1 + 1 < w3.heap.size + 1 + 1 := (by omega)))
          (try (have : w2.heap.size < w3.heap.size := (by omega)))
          (try (have : w2.heap.size < w3.heap.size + 1 := (by omega)))
          (try (have : w2.heap.size < w3.heap.size + 1 + 1 := (by omega)))
          (try (have : w2.heap.size + 1 < w3.heap.size := (by omega)))
          (try (have : w2.heap.size + 1 < w3.heap.size + 1 := (by omega)))
          (try (have : w2.heap.size + 1 < w3.heap.size + 1 + 1 := (by omega)))
          (try (have : w2.heap.size + 1 + 1 < w3.heap.size := (by omega)))
          (try (have : w2.heap.size + 1 + 1 < w3.heap.size + 1 := (by omega)))
          (try (have : w2.heap.size + 1 + 1 < w3.heap.size + 1 + 1 := (by omega)))
          (try (have : w2.heap.size + 1 + 1 + 1 < w3.heap.size := (by omega)))
          (try (have : w2.heap.size + 1 + 1 + 1 < w3.heap.size + 1 := (by omega)))
          (try (have : w2.heap.size + 1 + 1 + 1 < w3.heap.size + 1 + 1 := (by omega)))
          (try (have : W.heap.size < w3.heap.size := (by omega)))
          (try (have : W.heap.size < w3.heap.size + 1 := (by omega)))
          (try (have : W.heap.size < w3.heap.size + 1 + 1 := (by omega)))
          (try (have : W.heap.size + 1 < w3.heap.size := (by omega)))
          (try (have : W.heap.size + 1 < w3.heap.size + 1 := (by omega)))
          (try (have : W.heap.size + 1 < w3.heap.size + 1 + 1 := (by omega)))
          (try (have : W.heap.size + 1 + 1 < w3.heap.size := (by omega)))
          (try (have : W.heap.size + 1 + 1 < w3.heap.size + 1 := (by omega)))
          (try (have : W.heap.size + 1 + 1 < w3.heap.size + 1 + 1 := (by omega)))
          (try (have : W.heap.size + 1 + 1 + 1 < w3.heap.size := (by omega)))
          (try (have : W.heap.size + 1 + 1 + 1 < w3.heap.size + 1 := (by omega)))
          (try (have : W.heap.size + 1 + 1 + 1 < w3.heap.size + 1 + 1 := (by omega)))
          simp only [List.drop_succ_cons, List.drop_zero, List.drop_nil]
          go_wp2
          gi_wp2_with (refine ⟨trivial, ?_⟩; gi_at_call 80; refine (CallsIn.inRound lp (callsIn_wide.2 (dot_any _ _ _ _ _ _ _ (by omega) (by omega) (by omega)))).mono ?_; rintro e w4 ⟨rfl, hb4⟩; have hc4 := (Free.cells_of hb4).1; have hf4 := (Free.cells_of hb4).2; have hz4 := hb4.size; (try simp only [World.size_alloc, World.size_setCell, World.size_drew] at hz4); (try (have : w.heap.size < w4.heap.size := (by omega))); (try (have : w.heap.size < w4.heap.size + 1 := (by omega))); (try (have : w.heap.size < w4.heap.size + 1 + 1 := (by omega))); (try (have : w.heap.size + 1 < w4.heap.size := (by omega))); (try (have : w.heap.size + 1 < w4.heap.size + 1 := (by omega))); (try (have : w.heap.size + 1 < w4.heap.size + 1 + 1 := (by omega))); (try (have : w.heap.size + 1 + 1 < w4.heap.size := (by omega))); (try (have : w.heap.size + 1 + 1 < w4.heap.size + 1 := (by omega))); (try (have : w.heap.size + 1 + 1 < w4.heap.size + 1 + 1 := (by omega))); (try (have : w.heap.size + 1 + 1 + 1 < w4.heap.size := (by omega))); (try (have : w.heap.size + 1 + 1 + 1 < w4.heap.size + 1 := (by omega))); (try (have : w.heap.size + 1 + 1 + 1 < w4.heap.size + 1 + 1 := (by omega))); (try (have : w1.heap.size < w4.heap.size := (by omega))); (try (have : w1.heap.size < w4.heap.size + 1 := (by omega))); (try (have : w1.heap.size < w4.heap.size + 1 + 1 := (by omega))); (try (have : w1.heap.size + 1 < w4.heap.size := (by omega))); (try (have : w1.heap.size + 1 < w4.heap.size + 1 := (by omega))); (try (have : w1.heap.size + 1 < w4.heap.size + 1 + 1 := (by omega))); (try (have : w1.heap.size + 1 + 1 < w4.heap.size := (by omega))); (try (have : w1.heap.size + 1 + 1 < w4.heap.size + 1 := (by omega))); (try (have : w1.heap.size + 1 + 1 < w4.heap.size + 1 + 1 := (by omega))); (try (have : w1.heap.size + 1 + 1 + 1 < w4.heap.size := (by omega))); (try (have : w1.heap.size + 1 + 1 + 1 < w4.heap.size + 1 := (by omega))); (try (have : w1.heap.size + 1 + 1 + 1 < w4.heap.size + 1 + 1 := (by omega))); (try (have : w2.heap.size < w4.heap.size := (by omega))); (try (have : w2.heap.size < w4.heap.size + 1 := (by omega))); (try (have : w2.heap.size < w4.heap.size + 1 + 1 := (by omega))); (try (have : w2.heap.size + 1 < w4.heap.size := (by omega))); (try (have : w2.heap.size + 1 < w4.heap.size + 1 := (by omega))); (try (have : w2.heap.size + 1 < w4.heap.size + 1 + 1 := (by omega))); (try (have : w2.heap.size + 1 + 1 < w4.heap.size := (by omega))); (try (have : w2.heap.size + 1 + 1 < w4.heap.size + 1 := (by omega))); (try (have : w2.heap.size + 1 + 1 < w4.heap.size + 1 + 1 := (by omega))); (try (have : w2.heap.size + 1 + 1 + 1 < w4.heap.size := (by omega))); (try (have : w2.heap.size + 1 + 1 + 1 < w4.heap.size + 1 := (by omega))); (try (have : w2.heap.size + 1 + 1 + 1 < w4.heap.size + 1 + 1 := (by omega))); (try (have : W.heap.size < w4.heap.size := (by omega))); (try (have : W.heap.size < w4.heap.size + 1 := (by omega))); (try (have : W.heap.size < w4.heap.size + 1 + 1 := (by omega))); (try (have : W.heap.size + 1 < w4.heap.size := (by omega))); (try (have : W.heap.size + 1 < w4.heap.size + 1 := (by omega))); (try (have : W.heap.size + 1 < w4.heap.size + 1 + 1 := (by omega))); (try (have : W.heap.size + 1 + 1 < w4.heap.size := (by omega))); (try (have : W.heap.size + 1 + 1 < w4.heap.size + 1 := (by omega))); (try (have : W.heap.size + 1 + 1 < w4.heap.size + 1 + 1 := (by omega))); (try (have : W.heap.size + 1 + 1 + 1 < w4.heap.size := (by omega))); (try (have : W.heap.size + 1 + 1 + 1 < w4.heap.size + 1 := (by omega))); (try (have : W.heap.size + 1 + 1 + 1 < w4.heap.size + 1 + 1 := (by omega))); (try (have : w3.heap.size < w4.heap.size := (by omega))); (try (have : w3.heap.size < w4.heap.size + 1 := (by omega))); (try (have : w3.heap.size < w4.heap.size + 1 + 1 := (by omega))); (try (have : w3.heap.size + 1 < w4.heap.size := (by omega))); (try (have : w3.heap.size + 1 < w4.heap.size + 1 := (by omega))); (try (have : w3.heap.size + 1 < w4.heap.size + 1 + 1 := (by omega))); (try (have : w3.heap.size + 1 + 1 < w4.heap.size := (by omega))); (try (have : w3.heap.size + 1 + 1 < w4.heap.size + 1 := (by omega))); (try (have : w3.heap.size + 1 + 1 < w4.heap.size + 1 + 1 := (by omega))); (try (have : w3.heap.size + 1 + 1 + 1 < w4.heap.size := (by omega))); (try (have : w3.heap.size + 1 + 1 + 1 < w4.heap.size + 1 := (by omega))); (try (have : w3.heap.size + 1 + 1 + 1 < w4.heap.size + 1 + 1 := (by omega))); (try (have : b3_6 < w4.heap.size := (by omega))); (try (have : b3_6 < w4.heap.size + 1 := (by omega))); (try (have : b3_6 < w4.heap.size + 1 + 1 := (by omega))))
          refine ⟨by repeat' first | with_reducible exact Free.Keeps.refl _ _ _ | with_reducible assumption | with_reducible refine Free.Keeps.setCell ?_ (by first | omega | (simp; done) | (simp; omega)) _ | with_reducible refine Free.Keeps.alloc ?_ _ | with_reducible refine Free.Keeps.drew ?_ | with_reducible refine Free.Keeps.grow ?_ (by assumption), by repeat' first | with_reducible exact Below.refl _ _ | with_reducible assumption | with_reducible refine Free.Grow.alloc ?_ _ | with_reducible refine Free.Grow.setCell ?_ (by first | omega | (simp; done) | (simp; omega)) _ | with_reducible refine Free.Grow.drew ?_ | with_reducible refine Free.Grow.trans ?_ (by assumption), by repeat' first | with_reducible assumption | with_reducible exact Free.blk_new _ (by first | rfl | (simp; done)) | with_reducible refine Free.blk_alloc_old ?_ | with_reducible refine Free.blk_drew ?_ | with_reducible refine Free.blk_setCell_far ?_ (by first | omega | (simp; done) | (simp; omega)) _ | with_reducible apply Free.blk_setCell_to | (show Array.setIfInBounds _ _ _ = _; first | exact rfl | (simp; done)) | with_reducible refine Free.blk_below ?_ (by assumption), by repeat' first | with_reducible assumption | with_reducible exact Free.blk_new _ (by first | rfl | (simp; done)) | with_reducible refine Free.blk_alloc_old ?_ | with_reducible refine Free.blk_drew ?_ | with_reducible refine Free.blk_setCell_far ?_ (by first | omega | (simp; done) | (simp; omega)) _ | with_reducible apply Free.blk_setCell_to | (show Array.setIfInBounds _ _ _ = _; first | exact rfl | (simp; done)) | with_reducible refine Free.blk_below ?_ (by assumption), by simp only [HI.out]; repeat' first | with_reducible assumption | with_reducible exact Free.blk_new _ (by first | rfl | (simp; done)) | with_reducible refine Free.blk_alloc_old ?_ | with_reducible refine Free.blk_drew ?_ | with_reducible refine Free.blk_setCell_far ?_ (by first | omega | (simp; done) | (simp; omega)) _ | with_reducible apply Free.blk_setCell_to | (show Array.setIfInBounds _ _ _ = _; first | exact rfl | (simp; done)) | with_reducible refine Free.blk_below ?_ (by assumption), by simp only [HI.out]; repeat' first | with_reducible assumption | with_reducible exact Free.blk_new _ (by first | rfl | (simp; done)) | with_reducible refine Free.blk_alloc_old ?_ | with_reducible refine Free.blk_drew ?_ | with_reducible refine Free.blk_setCell_far ?_ (by first | omega | (simp; done) | (simp; omega)) _ | with_reducible apply Free.blk_setCell_to | (show Array.setIfInBounds _ _ _ = _; first | exact rfl | (simp; done)) | with_reducible refine Free.blk_below ?_ (by assumption)⟩
      · have HI := Lib.hid (HNo.out (by rw [hEq.out]; exact hA))
        have HA1 := Lib.hid (show ¬ q2 < 0 from fun h => hA (.inl h))
        have HA2 := Lib.hid (show ¬ (px - x) * (px - x) + (py - y) * (py - y) + (pz - z) * (pz - z) < q2 from fun h => hA (.inr h))
        clear HYes HNo hEq hA
        gi_wp2
        refine Free.wpIn_region 8 #[0, 0, 3, 0, 15, 31, 0, 127] (by kernel_rfl) (by kernel_rfl) (by rintro ⟨_, _, h⟩; exact h) ?_
        simp only [List.take_succ_cons, List.take_zero]
        iterate 6
          refine Free.E.q (by rfl) ?_
          apply Exists.intro
          refine ⟨fun u w' hc hb => ?_, ?_⟩
          go_simp
          (try go_ints); (try simp only [Ob.ite_imx, Ob.ite_imn]); first | exact rfl | (go_simp; exact rfl) | ((go_at_call 78; exact HCk.out _ (HS.out.below (B := W.heap.size) hb (by omega)) (by have := hb.size; omega))) | ((go_at_call 76; exact vectorOf_any _ _ _ _)) | ((go_at_call 79; exact less_any _ _ _ _ _ _ _ (by omega) (by omega) (by omega))) | (simp only [↓IntWalk.iteOmega]; (try go_simp); exact rfl)
          simp only [Act.put, List.setIfInBounds_toArray, List.set_cons_zero, List.set_cons_succ, List.nil_append, List.cons_append]
        refine Free.E.new (z := #[.int .i64 0, .int .i64 0, .int .i64 0]) (by rfl) rfl (by kernel_rfl) ?_
        simp only [Act.put, List.setIfInBounds_toArray, List.set_cons_zero, List.set_cons_succ, List.nil_append, List.cons_append]
        refine Free.E.init (k := 6) (by rfl) (by rfl) rfl rfl (by rfl) (by decide) (by rfl) (fun _ => rfl) (fun _ => rfl) (by kernel_rfl) rfl rfl (by rfl) ?_
        simp only [List.nil_append, List.cons_append]
        refine Free.E.nil (fun u w3 S hF => ?_)
        have hb3 := hF.below
        obtain ⟨b3_6, hu3_6, hlo3_6, hhi3_6, -, hk3_6⟩ := hF.allocs 6 _ _ rfl
        simp only [Free.final, List.findSome?, reduceIte, Option.getD_some, Option.getD_none, Nat.reduceEqDiff, Value.cells] at hk3_6
        clear hF
        have hc3 := (Free.cells_of hb3).1
        have hf3 := (Free.cells_of hb3).2
        have hz3 := hb3.size
        simp only [hu3_6]
        have hcb3_6 := Free.cell_of_blk hk3_6
        have hfb3_6 := Free.frozen_of_blk hk3_6
        clear hu3_6 hk3_6
        try simp only [World.size_alloc, World.size_setCell, World.size_drew] at hz3 hlo3_6
        (try (have : w.heap.size < w3.heap.size := (by omega)))
        (try (have : w.heap.size < w3.heap.size + 1 := (by omega)))
        (try (have : w.heap.size < w3.heap.size + 1 + 1 := (by omega)))
        (try (have : w.heap.size + 1 < w3.heap.size := (by omega)))
        (try (have : w.heap.size + 1 < w3.heap.size + 1 := (by omega)))
        (try (have : w.heap.size + 1 < w3.heap.size + 1 + 1 := (by omega)))
        (try (have : w.heap.size + 1 + 1 < w3.heap.size := (by omega)))
        (try (have : w.heap.size + 1 + 1 < w3.heap.size + 1 := (by omega)))
        (try (have : w.heap.size + 1 + 1 < w3.heap.size + 1 + 1 := (by omega)))
        (try (have : w.heap.size + 1 + 1 + 1 < w3.heap.size := (by omega)))
        (try (have : w.heap.size + 1 + 1 + 1 < w3.heap.size + 1 := (by omega)))
        (try (have : w.heap.size + 1 + 1 + 1 < w3.heap.size + 1 + 1 := (by omega)))
        (try (have : w1.heap.size < w3.heap.size := (by omega)))
        (try (have : w1.heap.size < w3.heap.size + 1 := (by omega)))
        (try (have : w1.heap.size < w3.heap.size + 1 + 1 := (by omega)))
        (try (have : w1.heap.size + 1 < w3.heap.size := (by omega)))
        (try (have : w1.heap.size + 1 < w3.heap.size + 1 := (by omega)))
        (try (have : w1.heap.size + 1 < w3.heap.size + 1 + 1 := (by omega)))
        (try (have : w1.heap.size + 1 + 1 < w3.heap.size := (by omega)))
        (try (have : w1.heap.size + 1 + 1 < w3.heap.size + 1 := (by omega)))
        (try (have : w1.heap.size + 1 + 1 < w3.heap.size + 1 + 1 := (by omega)))
        (try (have : w1.heap.size + 1 + 1 + 1 < w3.heap.size := (by omega)))
        (try (have : w1.heap.size + 1 + 1 + 1 < w3.heap.size + 1 := (by omega)))
        (try (have : w1.heap.size + 1 + 1 + 1 < w3.heap.size + 1 + 1 := (by omega)))
        (try (have : w2.heap.size < w3.heap.size := (by omega)))
        (try (have : w2.heap.size < w3.heap.size + 1 := (by omega)))
        (try (have : w2.heap.size < w3.heap.size + 1 + 1 := (by omega)))
        (try (have : w2.heap.size + 1 < w3.heap.size := (by omega)))
        (try (have : w2.heap.size + 1 < w3.heap.size + 1 := (by omega)))
        (try (have : w2.heap.size + 1 < w3.heap.size + 1 + 1 := (by omega)))
        (try (have : w2.heap.size + 1 + 1 < w3.heap.size := (by omega)))
        (try (have : w2.heap.size + 1 + 1 < w3.heap.size + 1 := (by omega)))
        (try (have : w2.heap.size + 1 + 1 < w3.heap.size + 1 + 1 := (by omega)))
        (try (have : w2.heap.size + 1 + 1 + 1 < w3.heap.size := (by omega)))
        (try (have : w2.heap.size + 1 + 1 + 1 < w3.heap.size + 1 := (by omega)))
        (try (have : w2.heap.size + 1 + 1 + 1 < w3.heap.size + 1 + 1 := (by omega)))
        (try (have : W.heap.size < w3.heap.size := (by omega)))
        (try (have : W.heap.size < w3.heap.size + 1 := (by omega)))
        (try (have : W.heap.size < w3.heap.size + 1 + 1 := (by omega)))
        (try (have : W.heap.size + 1 < w3.heap.size := (by omega)))
        (try (have : W.heap.size + 1 < w3.heap.size + 1 := (by omega)))
        (try (have : W.heap.size + 1 < w3.heap.size + 1 + 1 := (by omega)))
        (try (have : W.heap.size + 1 + 1 < w3.heap.size := (by omega)))
        (try (have : W.heap.size + 1 + 1 < w3.heap.size + 1 := (by omega)))
        (try (have : W.heap.size + 1 + 1 < w3.heap.size + 1 + 1 := (by omega)))
        (try (have : W.heap.size + 1 + 1 + 1 < w3.heap.size := (by omega)))
        (try (have : W.heap.size + 1 + 1 + 1 < w3.heap.size + 1 := (by omega)))
        (try (have : W.heap.size + 1 + 1 + 1 < w3.heap.size + 1 + 1 := (by omega)))
        simp only [List.drop_succ_cons, List.drop_zero, List.drop_nil]
        go_wp2
        have hA1 := HA1.out
        have hA2 := HA2.out
        gi_wp2_with (refine ⟨trivial, ?_⟩; gi_at_call 80; refine (CallsIn.inRound lp (callsIn_wide.2 (dot_any _ _ _ _ _ _ _ (by omega) (by omega) (by omega)))).mono ?_; rintro e w4 ⟨rfl, hb4⟩; have hc4 := (Free.cells_of hb4).1; have hf4 := (Free.cells_of hb4).2; have hz4 := hb4.size; (try simp only [World.size_alloc, World.size_setCell, World.size_drew] at hz4); (try (have : w.heap.size < w4.heap.size := (by omega))); (try (have : w.heap.size < w4.heap.size + 1 := (by omega))); (try (have : w.heap.size < w4.heap.size + 1 + 1 := (by omega))); (try (have : w.heap.size + 1 < w4.heap.size := (by omega))); (try (have : w.heap.size + 1 < w4.heap.size + 1 := (by omega))); (try (have : w.heap.size + 1 < w4.heap.size + 1 + 1 := (by omega))); (try (have : w.heap.size + 1 + 1 < w4.heap.size := (by omega))); (try (have : w.heap.size + 1 + 1 < w4.heap.size + 1 := (by omega))); (try (have : w.heap.size + 1 + 1 < w4.heap.size + 1 + 1 := (by omega))); (try (have : w.heap.size + 1 + 1 + 1 < w4.heap.size := (by omega))); (try (have : w.heap.size + 1 + 1 + 1 < w4.heap.size + 1 := (by omega))); (try (have : w.heap.size + 1 + 1 + 1 < w4.heap.size + 1 + 1 := (by omega))); (try (have : w1.heap.size < w4.heap.size := (by omega))); (try (have : w1.heap.size < w4.heap.size + 1 := (by omega))); (try (have : w1.heap.size < w4.heap.size + 1 + 1 := (by omega))); (try (have : w1.heap.size + 1 < w4.heap.size := (by omega))); (try (have : w1.heap.size + 1 < w4.heap.size + 1 := (by omega))); (try (have : w1.heap.size + 1 < w4.heap.size + 1 + 1 := (by omega))); (try (have : w1.heap.size + 1 + 1 < w4.heap.size := (by omega))); (try (have : w1.heap.size + 1 + 1 < w4.heap.size + 1 := (by omega))); (try (have : w1.heap.size + 1 + 1 < w4.heap.size + 1 + 1 := (by omega))); (try (have : w1.heap.size + 1 + 1 + 1 < w4.heap.size := (by omega))); (try (have : w1.heap.size + 1 + 1 + 1 < w4.heap.size + 1 := (by omega))); (try (have : w1.heap.size + 1 + 1 + 1 < w4.heap.size + 1 + 1 := (by omega))); (try (have : w2.heap.size < w4.heap.size := (by omega))); (try (have : w2.heap.size < w4.heap.size + 1 := (by omega))); (try (have : w2.heap.size < w4.heap.size + 1 + 1 := (by omega))); (try (have : w2.heap.size + 1 < w4.heap.size := (by omega))); (try (have : w2.heap.size + 1 < w4.heap.size + 1 := (by omega))); (try (have : w2.heap.size + 1 < w4.heap.size + 1 + 1 := (by omega))); (try (have : w2.heap.size + 1 + 1 < w4.heap.size := (by omega))); (try (have : w2.heap.size + 1 + 1 < w4.heap.size + 1 := (by omega))); (try (have : w2.heap.size + 1 + 1 < w4.heap.size + 1 + 1 := (by omega))); (try (have : w2.heap.size + 1 + 1 + 1 < w4.heap.size := (by omega))); (try (have : w2.heap.size + 1 + 1 + 1 < w4.heap.size + 1 := (by omega))); (try (have : w2.heap.size + 1 + 1 + 1 < w4.heap.size + 1 + 1 := (by omega))); (try (have : W.heap.size < w4.heap.size := (by omega))); (try (have : W.heap.size < w4.heap.size + 1 := (by omega))); (try (have : W.heap.size < w4.heap.size + 1 + 1 := (by omega))); (try (have : W.heap.size + 1 < w4.heap.size := (by omega))); (try (have : W.heap.size + 1 < w4.heap.size + 1 := (by omega))); (try (have : W.heap.size + 1 < w4.heap.size + 1 + 1 := (by omega))); (try (have : W.heap.size + 1 + 1 < w4.heap.size := (by omega))); (try (have : W.heap.size + 1 + 1 < w4.heap.size + 1 := (by omega))); (try (have : W.heap.size + 1 + 1 < w4.heap.size + 1 + 1 := (by omega))); (try (have : W.heap.size + 1 + 1 + 1 < w4.heap.size := (by omega))); (try (have : W.heap.size + 1 + 1 + 1 < w4.heap.size + 1 := (by omega))); (try (have : W.heap.size + 1 + 1 + 1 < w4.heap.size + 1 + 1 := (by omega))); (try (have : w3.heap.size < w4.heap.size := (by omega))); (try (have : w3.heap.size < w4.heap.size + 1 := (by omega))); (try (have : w3.heap.size < w4.heap.size + 1 + 1 := (by omega))); (try (have : w3.heap.size + 1 < w4.heap.size := (by omega))); (try (have : w3.heap.size + 1 < w4.heap.size + 1 := (by omega))); (try (have : w3.heap.size + 1 < w4.heap.size + 1 + 1 := (by omega))); (try (have : w3.heap.size + 1 + 1 < w4.heap.size := (by omega))); (try (have : w3.heap.size + 1 + 1 < w4.heap.size + 1 := (by omega))); (try (have : w3.heap.size + 1 + 1 < w4.heap.size + 1 + 1 := (by omega))); (try (have : w3.heap.size + 1 + 1 + 1 < w4.heap.size := (by omega))); (try (have : w3.heap.size + 1 + 1 + 1 < w4.heap.size + 1 := (by omega))); (try (have : w3.heap.size + 1 + 1 + 1 < w4.heap.size + 1 + 1 := (by omega))); (try (have : b3_6 < w4.heap.size := (by omega))); (try (have : b3_6 < w4.heap.size + 1 := (by omega))); (try (have : b3_6 < w4.heap.size + 1 + 1 := (by omega))))
        refine ⟨by repeat' first | with_reducible exact Free.Keeps.refl _ _ _ | with_reducible assumption | with_reducible refine Free.Keeps.setCell ?_ (by first | omega | (simp; done) | (simp; omega)) _ | with_reducible refine Free.Keeps.alloc ?_ _ | with_reducible refine Free.Keeps.drew ?_ | with_reducible refine Free.Keeps.grow ?_ (by assumption), by repeat' first | with_reducible exact Below.refl _ _ | with_reducible assumption | with_reducible refine Free.Grow.alloc ?_ _ | with_reducible refine Free.Grow.setCell ?_ (by first | omega | (simp; done) | (simp; omega)) _ | with_reducible refine Free.Grow.drew ?_ | with_reducible refine Free.Grow.trans ?_ (by assumption), by repeat' first | with_reducible assumption | with_reducible exact Free.blk_new _ (by first | rfl | (simp; done)) | with_reducible refine Free.blk_alloc_old ?_ | with_reducible refine Free.blk_drew ?_ | with_reducible refine Free.blk_setCell_far ?_ (by first | omega | (simp; done) | (simp; omega)) _ | with_reducible apply Free.blk_setCell_to | (show Array.setIfInBounds _ _ _ = _; first | exact rfl | (simp; done)) | with_reducible refine Free.blk_below ?_ (by assumption), by repeat' first | with_reducible assumption | with_reducible exact Free.blk_new _ (by first | rfl | (simp; done)) | with_reducible refine Free.blk_alloc_old ?_ | with_reducible refine Free.blk_drew ?_ | with_reducible refine Free.blk_setCell_far ?_ (by first | omega | (simp; done) | (simp; omega)) _ | with_reducible apply Free.blk_setCell_to | (show Array.setIfInBounds _ _ _ = _; first | exact rfl | (simp; done)) | with_reducible refine Free.blk_below ?_ (by assumption), by simp only [HI.out]; repeat' first | with_reducible assumption | with_reducible exact Free.blk_new _ (by first | rfl | (simp; done)) | with_reducible refine Free.blk_alloc_old ?_ | with_reducible refine Free.blk_drew ?_ | with_reducible refine Free.blk_setCell_far ?_ (by first | omega | (simp; done) | (simp; omega)) _ | with_reducible apply Free.blk_setCell_to | (show Array.setIfInBounds _ _ _ = _; first | exact rfl | (simp; done)) | with_reducible refine Free.blk_below ?_ (by assumption), by simp only [HI.out]; repeat' first | with_reducible assumption | with_reducible exact Free.blk_new _ (by first | rfl | (simp; done)) | with_reducible refine Free.blk_alloc_old ?_ | with_reducible refine Free.blk_drew ?_ | with_reducible refine Free.blk_setCell_far ?_ (by first | omega | (simp; done) | (simp; omega)) _ | with_reducible apply Free.blk_setCell_to | (show Array.setIfInBounds _ _ _ = _; first | exact rfl | (simp; done)) | with_reducible refine Free.blk_below ?_ (by assumption)⟩
    case done =>
      rintro D W hD ⟨hBW, k7, k3, k9, k10⟩ hk
      have c9 := Free.cell_of_blk k9
      have c10 := Free.cell_of_blk k10
      have l9 := Free.lt_of_blk k9
      have l10 := Free.lt_of_blk k10
      go_wp2
      refine Free.wp_region 5 #[0, 0, 1, 7, 15] (by kernel_rfl) (by kernel_rfl) ?_
      simp only [List.take_succ_cons, List.take_zero]
      iterate 5
        refine Free.E.q (by rfl) ?_
        apply Exists.intro
        refine ⟨fun u w' hc hb => ?_, ?_⟩
        go_simp
        (try go_ints); (try simp only [Ob.ite_imx, Ob.ite_imn]); first | exact rfl | (go_simp; exact rfl) | (simp only [↓IntWalk.iteOmega]; (try go_simp); exact rfl)
        simp only [Act.put, List.setIfInBounds_toArray, List.set_cons_zero, List.set_cons_succ, List.nil_append, List.cons_append]
      refine Free.E.nil (fun u w9 S hF => ?_)
      have hb9 := hF.below
      clear hF
      have hc9 := (Free.cells_of hb9).1
      have hf9 := (Free.cells_of hb9).2
      have hz9 := hb9.size
      try simp only [World.size_alloc, World.size_setCell, World.size_drew] at hz9
      (try (have : W.heap.size < w9.heap.size := (by omega)))
      (try (have : W.heap.size < w9.heap.size + 1 := (by omega)))
      (try (have : W.heap.size < w9.heap.size + 1 + 1 := (by omega)))
      (try (have : W.heap.size + 1 < w9.heap.size := (by omega)))
      (try (have : W.heap.size + 1 < w9.heap.size + 1 := (by omega)))
      (try (have : W.heap.size + 1 < w9.heap.size + 1 + 1 := (by omega)))
      (try (have : W.heap.size + 1 + 1 < w9.heap.size := (by omega)))
      (try (have : W.heap.size + 1 + 1 < w9.heap.size + 1 := (by omega)))
      (try (have : W.heap.size + 1 + 1 < w9.heap.size + 1 + 1 := (by omega)))
      (try (have : W.heap.size + 1 + 1 + 1 < w9.heap.size := (by omega)))
      (try (have : W.heap.size + 1 + 1 + 1 < w9.heap.size + 1 := (by omega)))
      (try (have : W.heap.size + 1 + 1 + 1 < w9.heap.size + 1 + 1 := (by omega)))
      simp only [List.drop_succ_cons, List.drop_zero, List.drop_nil]
      go_wp2
      have hk9 : w9.heap[D]? = some (.deferred (some [])) := by repeat' first | with_reducible assumption | with_reducible exact Free.blk_new _ (by first | rfl | (simp; done)) | with_reducible refine Free.blk_alloc_old ?_ | with_reducible refine Free.blk_drew ?_ | with_reducible refine Free.blk_setCell_far ?_ (by first | omega | (simp; done) | (simp; omega)) _ | with_reducible apply Free.blk_setCell_to | (show Array.setIfInBounds _ _ _ = _; first | exact rfl | (simp; done)) | with_reducible refine Free.blk_below ?_ (by assumption)
      refine Free.bodyPostE_ret1 (D := D) (v := .tuple #[.int .i64 (nearTo (nsq l x y z) (frstT l) N).1, .int .i64 (nearTo (nsq l x y z) (frstT l) N).2, .int .i64 0]) (by simp [results, Tryz.results32, go_sem, *]) rfl hk9 ?_
      exact HR.out _ (Free.Grow.put (by repeat' first | with_reducible exact Below.refl _ _ | with_reducible assumption | with_reducible refine Free.Grow.alloc ?_ _ | with_reducible refine Free.Grow.setCell ?_ (by first | omega | (simp; done) | (simp; omega)) _ | with_reducible refine Free.Grow.drew ?_ | with_reducible refine Free.Grow.trans ?_ (by assumption)) (by simp at hD; omega) hk9 _)
  · have HN : nearOr nm.data.toList bd l x y z = (0, 0) := by unfold nearOr; rw [if_neg h]
    rw [HN]
    clear HN
    have hE0 : (firstE [(orbE nm.data.toList bd l).2, placeE x y z] != 0) = true := by simpa [plE] using h
    have HO := Lib.hid hO
    unfold plE
    clear h hO
    generalize (orbE nm.data.toList bd l).2 = c at *
    refine Calls.made fun R HR => ?_
    go_enter Tryz.func32, Tryz.ntmps32
    go_wp2_with (first | (go_at_call 62; refine (HA.out _ (HO.out.below (by repeat' first | with_reducible exact Below.refl _ _ | with_reducible assumption | with_reducible refine Free.Grow.alloc ?_ _ | with_reducible refine Free.Grow.setCell ?_ (by first | omega | (simp; done) | (simp; omega)) _ | with_reducible refine Free.Grow.drew ?_ | with_reducible refine Free.Grow.trans ?_ (by assumption)))).mono ?_; rintro e w1 ⟨rfl, hb1⟩; have hc1 := (Free.cells_of hb1).1; have hf1 := (Free.cells_of hb1).2; have hz1 := hb1.size; (try simp only [World.size_alloc, World.size_setCell, World.size_drew] at hz1); (try (have : w.heap.size < w1.heap.size := (by omega))); (try (have : w.heap.size < w1.heap.size + 1 := (by omega))); (try (have : w.heap.size < w1.heap.size + 1 + 1 := (by omega))); (try (have : w.heap.size + 1 < w1.heap.size := (by omega))); (try (have : w.heap.size + 1 < w1.heap.size + 1 := (by omega))); (try (have : w.heap.size + 1 < w1.heap.size + 1 + 1 := (by omega))); (try (have : w.heap.size + 1 + 1 < w1.heap.size := (by omega))); (try (have : w.heap.size + 1 + 1 < w1.heap.size + 1 := (by omega))); (try (have : w.heap.size + 1 + 1 < w1.heap.size + 1 + 1 := (by omega))); (try (have : w.heap.size + 1 + 1 + 1 < w1.heap.size := (by omega))); (try (have : w.heap.size + 1 + 1 + 1 < w1.heap.size + 1 := (by omega))); (try (have : w.heap.size + 1 + 1 + 1 < w1.heap.size + 1 + 1 := (by omega)))) | (go_at_call 74; refine (checkPlace_any _ _ _ _).mono ?_; rintro e w2 ⟨rfl, hb2⟩; have hc2 := (Free.cells_of hb2).1; have hf2 := (Free.cells_of hb2).2; have hz2 := hb2.size; (try simp only [World.size_alloc, World.size_setCell, World.size_drew] at hz2); (try (have : w.heap.size < w2.heap.size := (by omega))); (try (have : w.heap.size < w2.heap.size + 1 := (by omega))); (try (have : w.heap.size < w2.heap.size + 1 + 1 := (by omega))); (try (have : w.heap.size + 1 < w2.heap.size := (by omega))); (try (have : w.heap.size + 1 < w2.heap.size + 1 := (by omega))); (try (have : w.heap.size + 1 < w2.heap.size + 1 + 1 := (by omega))); (try (have : w.heap.size + 1 + 1 < w2.heap.size := (by omega))); (try (have : w.heap.size + 1 + 1 < w2.heap.size + 1 := (by omega))); (try (have : w.heap.size + 1 + 1 < w2.heap.size + 1 + 1 := (by omega))); (try (have : w.heap.size + 1 + 1 + 1 < w2.heap.size := (by omega))); (try (have : w.heap.size + 1 + 1 + 1 < w2.heap.size + 1 := (by omega))); (try (have : w.heap.size + 1 + 1 + 1 < w2.heap.size + 1 + 1 := (by omega))); (try (have : w1.heap.size < w2.heap.size := (by omega))); (try (have : w1.heap.size < w2.heap.size + 1 := (by omega))); (try (have : w1.heap.size < w2.heap.size + 1 + 1 := (by omega))); (try (have : w1.heap.size + 1 < w2.heap.size := (by omega))); (try (have : w1.heap.size + 1 < w2.heap.size + 1 := (by omega))); (try (have : w1.heap.size + 1 < w2.heap.size + 1 + 1 := (by omega))); (try (have : w1.heap.size + 1 + 1 < w2.heap.size := (by omega))); (try (have : w1.heap.size + 1 + 1 < w2.heap.size + 1 := (by omega))); (try (have : w1.heap.size + 1 + 1 < w2.heap.size + 1 + 1 := (by omega))); (try (have : w1.heap.size + 1 + 1 + 1 < w2.heap.size := (by omega))); (try (have : w1.heap.size + 1 + 1 + 1 < w2.heap.size + 1 := (by omega))); (try (have : w1.heap.size + 1 + 1 + 1 < w2.heap.size + 1 + 1 := (by omega)))) | (go_at_call 63; refine (first2_any _ c (placeE x y z) _ (by simp [go_sem]) (by simp [go_sem])).mono ?_; rintro e w' ⟨rfl, rfl⟩))
    first | (go_ret3; exact HR.out _ (by repeat' first | with_reducible exact Below.refl _ _ | with_reducible assumption | with_reducible refine Free.Grow.alloc ?_ _ | with_reducible refine Free.Grow.setCell ?_ (by first | omega | (simp; done) | (simp; omega)) _ | with_reducible refine Free.Grow.drew ?_ | with_reducible refine Free.Grow.trans ?_ (by assumption))) | exact HR.out _ (by repeat' first | with_reducible exact Below.refl _ _ | with_reducible assumption | with_reducible refine Free.Grow.alloc ?_ _ | with_reducible refine Free.Grow.setCell ?_ (by first | omega | (simp; done) | (simp; omega)) _ | with_reducible refine Free.Grow.drew ?_ | with_reducible refine Free.Grow.trans ?_ (by assumption))
end Go.Proofs.YthhhkjbhhjcjoaaGreatDoor
