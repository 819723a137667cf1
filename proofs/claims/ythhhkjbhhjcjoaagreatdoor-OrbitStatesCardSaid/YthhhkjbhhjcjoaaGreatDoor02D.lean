/- Chapter 2: runs of ticks; Passes of the program. -/
import Derived.Test.YthhhkjbhhjcjoaaGreatDoor02B
import Derived.Test.YthhhkjbhhjcjoaaGreatDoor02Own
import Derived.Shelf.Abstract
set_option linter.unusedSimpArgs false
set_option linter.unusedVariables false
namespace Go.Proofs.YthhhkjbhhjcjoaaGreatDoor
open Go.RowKit Go.Ob Go.Shelf

theorem info_rg : (Tryz.prog.info? 60).map (fun i => (i.zero, i.size, i.bytes)) = some (some (.agg #[.int .i64 0, .int .i64 0]), 2, 16) := by kernel_rfl

set_option maxRecDepth 100000 in
set_option maxHeartbeats 2000000 in
theorem PassIs_any (nm : ByteArray) (bd t x y z mo : Int) (b off cap B7 B3 B5 : Nat) (l : List St) (w : World) (hR : Right bd l) (h0 : frstT l ≤ t) (h1 : t ≤ lastT l) (hS : HasSts w b off l) (hbw : b < w.heap.size) (hcap : l.length ≤ cap)
    (hx : -100000000 ≤ x ∧ x ≤ 100000000) (hy : -100000000 ≤ y ∧ y ≤ 100000000) (hz : -100000000 ≤ z ∧ z ≤ 100000000) (hmo : 0 ≤ mo ∧ mo ≤ 100000000)
    (k7 : w.heap[B7]? = some (.cells #[.string nm, .int .i64 bd, .slice (some ⟨b, off, none⟩) l.length cap] 123 (0, 0))) (k3 : w.heap[B3]? = some (.cells #[.int .i64 x, .int .i64 y, .int .i64 z] 23 (0, 0))) (k5 : w.heap[B5]? = some (.cells #[.int .i64 mo] 3 (0, 0))) :
    Calls Tryz.prog 82 #[.int .i64 t, .pointer (some ⟨B7, 0, none⟩), .pointer (some ⟨B3, 0, none⟩), .pointer (some ⟨B5, 0, none⟩)] w fun e w' => e = .returned (.bool (decide (nsq l x y z t ≤ mo * mo))) ∧ Below w.heap.size w w' := by
  have hnb := nom_bd hR h0 h1
  have hnd := dsq_bd hnb hx hy hz
  have HC := Lib.hid (fun w' (hS' : HasSts w' b off l) (hb' : b < w'.heap.size) => nominal_any nm bd t b off cap l w' hR h0 h1 hS' hb' hcap)
  have hEq : nsq l x y z t = ((nom l t).x - x) * ((nom l t).x - x) + ((nom l t).y - y) * ((nom l t).y - y) + ((nom l t).z - z) * ((nom l t).z - z) := rfl
  rw [hEq]
  clear hEq
  generalize nom l t = p at *
  obtain ⟨px, py, pz⟩ := p
  simp only [p3V] at hnd hnb HC ⊢
  have hm := sq_bd (n := mo) (M := 100000000) (by omega) (by omega)
  have hm0 := hm.1
  have hm1 := hm.2
  clear hm
  have c7 := Free.cell_of_blk k7
  have c3 := Free.cell_of_blk k3
  have c5 := Free.cell_of_blk k5
  have l7 := Free.lt_of_blk k7
  have l3 := Free.lt_of_blk k3
  have l5 := Free.lt_of_blk k5
  have HS := Lib.hid hS
  clear hS h0 h1 hR
  refine Calls.made fun R HR => ?_
  go_enter Tryz.func82, Tryz.ntmps82
  go_wp2
  refine Free.wp_region 8 #[0, 0, 3, 0, 15, 31, 0, 127] (by kernel_rfl) (by kernel_rfl) ?_
  simp only [List.take_succ_cons, List.take_zero]
  iterate 6
    refine Free.E.q (by rfl) ?_
    apply Exists.intro
    refine ⟨fun u w' hc hb => ?_, ?_⟩
    go_simp
    (try go_ints); (try simp only [Ob.ite_imx, Ob.ite_imn]); first | exact rfl | (go_simp; exact rfl) | ((go_at_call 78; exact HC.out _ (HS.out.below (B := w.heap.size) hb hbw) (by have := hb.size; omega))) | ((go_at_call 76; exact vectorOf_any _ _ _ _)) | ((go_at_call 79; exact less_any _ _ _ _ _ _ _ (by omega) (by omega) (by omega))) | (simp only [↓IntWalk.iteOmega]; (try go_simp); exact rfl)
    simp only [Act.put, List.setIfInBounds_toArray, List.set_cons_zero, List.set_cons_succ, List.nil_append, List.cons_append]
  refine Free.E.new (z := #[.int .i64 0, .int .i64 0, .int .i64 0]) (by rfl) rfl (by kernel_rfl) ?_
  simp only [Act.put, List.setIfInBounds_toArray, List.set_cons_zero, List.set_cons_succ, List.nil_append, List.cons_append]
  refine Free.E.init (k := 6) (by rfl) (by rfl) rfl rfl (by rfl) (by decide) (by rfl) (fun _ => rfl) (fun _ => rfl) (by kernel_rfl) rfl rfl (by rfl) ?_
  simp only [List.nil_append, List.cons_append]
  refine Free.E.nil (fun u w1 S hF => ?_)
  have hb1 := hF.below
  obtain ⟨b1_6, hu1_6, hlo1_6, hhi1_6, -, hk1_6⟩ := hF.allocs 6 _ _ rfl
  simp only [Free.final, List.findSome?, reduceIte, Option.getD_some, Option.getD_none, Nat.reduceEqDiff, Value.cells] at hk1_6
  clear hF
  have hc1 := (Free.cells_of hb1).1
  have hf1 := (Free.cells_of hb1).2
  have hz1 := hb1.size
  simp only [hu1_6]
  have hcb1_6 := Free.cell_of_blk hk1_6
  have hfb1_6 := Free.frozen_of_blk hk1_6
  clear hu1_6 hk1_6
  try simp only [World.size_alloc, World.size_setCell, World.size_drew] at hz1 hlo1_6
  (try (have : w.heap.size < w1.heap.size := (by omega)))
  (try (have : w.heap.size < w1.heap.size + 1 := (by omega)))
  (try (have : w.heap.size < w1.heap.size + 1 + 1 := (by omega)))
  (try (have : w.heap.size + 1 < w1.heap.size := (by omega)))
  (try (have : w.heap.size + 1 < w1.heap.size + 1 := (by omega)))
  (try (have : w.heap.size + 1 < w1.heap.size + 1 + 1 := (by omega)))
  (try (have : w.heap.size + 1 + 1 < w1.heap.size := (by omega)))
  (try (have : w.heap.size + 1 + 1 < w1.heap.size + 1 := (by omega)))
  (try (have : w.heap.size + 1 + 1 < w1.heap.size + 1 + 1 := (by omega)))
  (try (have : w.heap.size + 1 + 1 + 1 < w1.heap.size := (by omega)))
  (try (have : w.heap.size + 1 + 1 + 1 < w1.heap.size + 1 := (by omega)))
  (try (have : w.heap.size + 1 + 1 + 1 < w1.heap.size + 1 + 1 := (by omega)))
  (try (have : B7 < w1.heap.size := (by omega)))
  (try (have : B7 < w1.heap.size + 1 := (by omega)))
  (try (have : B7 < w1.heap.size + 1 + 1 := (by omega)))
  (try (have : B3 < w1.heap.size := (by omega)))
  (try (have : B3 < w1.heap.size + 1 := (by omega)))
  (try (have : B3 < w1.heap.size + 1 + 1 := (by omega)))
  (try (have : B5 < w1.heap.size := (by omega)))
  (try (have : B5 < w1.heap.size + 1 := (by omega)))
  (try (have : B5 < w1.heap.size + 1 + 1 := (by omega)))
  simp only [List.drop_succ_cons, List.drop_zero, List.drop_nil]
  go_wp2
  refine Free.wp_region 8 #[0, 0, 3, 0, 0, 24, 63, 127] (by kernel_rfl) (by kernel_rfl) ?_
  simp only [List.take_succ_cons, List.take_zero]
  iterate 8
    refine Free.E.q (by rfl) ?_
    apply Exists.intro
    refine ⟨fun u w' hc hb => ?_, ?_⟩
    go_simp
    (try go_ints); (try simp only [Ob.ite_imx, Ob.ite_imn]); first | exact rfl | (go_simp; exact rfl) | ((go_at_call 80; exact dot_any _ _ _ _ _ _ _ (by omega) (by omega) (by omega))) | (simp only [↓IntWalk.iteOmega]; (try go_simp); exact rfl)
    simp only [Act.put, List.setIfInBounds_toArray, List.set_cons_zero, List.set_cons_succ, List.nil_append, List.cons_append]
  refine Free.E.nil (fun u w2 S hF => ?_)
  have hb2 := hF.below
  clear hF
  have hc2 := (Free.cells_of hb2).1
  have hf2 := (Free.cells_of hb2).2
  have hz2 := hb2.size
  try simp only [World.size_alloc, World.size_setCell, World.size_drew] at hz2
  (try (have : w.heap.size < w2.heap.size := (by omega)))
  (try (have : w.heap.size < w2.heap.size + 1 := (by omega)))
  (try (have : w.heap.size < w2.heap.size + 1 + 1 := (by omega)))
  (try (have : w.heap.size + 1 < w2.heap.size := (by omega)))
  (try (have : w.heap.size + 1 < w2.heap.size + 1 := (by omega)))
  (try (have : w.heap.size + 1 < w2.heap.size + 1 + 1 := (by omega)))
  (try (have : w.heap.size + 1 + 1 < w2.heap.size := (by omega)))
  (try (have : w.heap.size + 1 + 1 < w2.heap.size + 1 := (by omega)))
  (try (have : w.heap.size + 1 + 1 < w2.heap.size + 1 + 1 := (by omega)))
  (try (have : w.heap.size + 1 + 1 + 1 < w2.heap.size := (by omega)))
  (try (have : w.heap.size + 1 + 1 + 1 < w2.heap.size + 1 := (by omega)))
  (try (have : w.heap.size + 1 + 1 + 1 < w2.heap.size + 1 + 1 := (by omega)))
  (try (have : w1.heap.size < w2.heap.size := (by omega)))
  (try (have : w1.heap.size < w2.heap.size + 1 := (by omega)))
  (try (have : w1.heap.size < w2.heap.size + 1 + 1 := (by omega)))
  (try (have : w1.heap.size + 1 < w2.heap.size := (by omega)))
  (try (have : w1.heap.size + 1 < w2.heap.size + 1 := (by omega)))
  (try (have : w1.heap.size + 1 < w2.heap.size + 1 + 1 := (by omega)))
  (try (have : w1.heap.size + 1 + 1 < w2.heap.size := (by omega)))
  (try (have : w1.heap.size + 1 + 1 < w2.heap.size + 1 := (by omega)))
  (try (have : w1.heap.size + 1 + 1 < w2.heap.size + 1 + 1 := (by omega)))
  (try (have : w1.heap.size + 1 + 1 + 1 < w2.heap.size := (by omega)))
  (try (have : w1.heap.size + 1 + 1 + 1 < w2.heap.size + 1 := (by omega)))
  (try (have : w1.heap.size + 1 + 1 + 1 < w2.heap.size + 1 + 1 := (by omega)))
  (try (have : B7 < w2.heap.size := (by omega)))
  (try (have : B7 < w2.heap.size + 1 := (by omega)))
  (try (have : B7 < w2.heap.size + 1 + 1 := (by omega)))
  (try (have : B3 < w2.heap.size := (by omega)))
  (try (have : B3 < w2.heap.size + 1 := (by omega)))
  (try (have : B3 < w2.heap.size + 1 + 1 := (by omega)))
  (try (have : B5 < w2.heap.size := (by omega)))
  (try (have : B5 < w2.heap.size + 1 := (by omega)))
  (try (have : B5 < w2.heap.size + 1 + 1 := (by omega)))
  (try (have : b1_6 < w2.heap.size := (by omega)))
  (try (have : b1_6 < w2.heap.size + 1 := (by omega)))
  (try (have : b1_6 < w2.heap.size + 1 + 1 := (by omega)))
  simp only [List.drop_succ_cons, List.drop_zero, List.drop_nil]
  go_wp2
  first | (go_ret; exact HR.out _ (by repeat' first | with_reducible exact Below.refl _ _ | with_reducible assumption | with_reducible refine Free.Grow.alloc ?_ _ | with_reducible refine Free.Grow.setCell ?_ (by first | omega | (simp; done) | (simp; omega)) _ | with_reducible refine Free.Grow.drew ?_ | with_reducible refine Free.Grow.trans ?_ (by assumption))) | exact HR.out _ (by repeat' first | with_reducible exact Below.refl _ _ | with_reducible assumption | with_reducible refine Free.Grow.alloc ?_ _ | with_reducible refine Free.Grow.setCell ?_ (by first | omega | (simp; done) | (simp; omega)) _ | with_reducible refine Free.Grow.drew ?_ | with_reducible refine Free.Grow.trans ?_ (by assumption))

/-- The rows that are kept while a list of ranges is made. -/
theorem flatR_snoc (l : List (Int × Int)) (r : Int × Int) : flatR (l ++ [r]) = flatR l ++ [.int .i64 r.1, .int .i64 r.2] := by simp [flatR, rgC]
theorem flatR_set (l : List (Int × Int)) (a b c : Int) : (flatR (l ++ [(a, b)])).set (l.length * 2 + 1) (.int .i64 c) = flatR (l ++ [(a, c)]) := by
  rw [flatR_snoc, flatR_snoc, List.set_append_right _ _ (by rw [flatR_len]; omega), flatR_len]
  simp
theorem grow_nil (t : Int) : grow [] t = [(t, t)] := rfl
theorem grow_last (l : List (Int × Int)) (a b t : Int) (h : b = t - 1) : grow (l ++ [(a, b)]) t = l ++ [(a, t)] := by simp [grow, h]
theorem grow_new (l : List (Int × Int)) (a b t : Int) (h : ¬ b = t - 1) : grow (l ++ [(a, b)]) t = l ++ [(a, b)] ++ [(t, t)] := by simp [grow, h]
theorem runTo_len (is : Int → Bool) (a : Int) : ∀ k, (runTo is a k).length ≤ k
  | 0 => by simp [runTo]
  | k + 1 => by
    have ih := runTo_len is a k
    simp only [runTo]
    split
    · rcases List.eq_nil_or_concat (runTo is a k) with h | ⟨l, r, h⟩
      · rw [h]; simp [grow]
      · rw [h] at ih ⊢
        obtain ⟨r1, r2⟩ := r
        rw [List.concat_eq_append] at ih ⊢
        simp only [List.length_append, List.length_cons, List.length_nil] at ih
        by_cases e : r2 = a + k - 1
        · rw [grow_last _ _ _ _ e]; simp; omega
        · rw [grow_new _ _ _ _ e]; simp; omega
    · omega
theorem runTo_no {is : Int → Bool} {a : Int} {k : Nat} (h : is (a + k) = false) : runTo is a (k + 1) = runTo is a k := by simp [runTo, h]
theorem runTo_yes {is : Int → Bool} {a : Int} {k : Nat} (h : is (a + k) = true) : runTo is a (k + 1) = grow (runTo is a k) (a + k) := by simp [runTo, h]

/-- A list of ranges of the call's own. -/
def RunsOf (L : List (Int × Int)) (w : World) (e : Ending) (w' : World) : Prop :=
  ∃ a cap, e = .returned (.slice a L.length cap) ∧ Below w.heap.size w w' ∧ w'.ownsRow w.heap.size 60 2 (.slice a L.length cap) L.length (flatR L)

set_option maxRecDepth 100000 in
set_option maxHeartbeats 2000000 in
theorem runs_any (f : Nat) (cs : Array Value) (is : Int → Bool) (lo hi : Int) (N : Nat) (w : World) (eg : ∀ args w, (callFunc f args).run Tryz.prog w = .ok (.enter f args) w) (hlo : -1000000000000 ≤ lo) (hhi : hi ≤ 1000000000000) (hN : (N : Int) = hi + 1 - lo) (hN2 : N ≤ 100000)
    (H : ∀ (k : Nat) w', k < N → Below w.heap.size w w' → Calls Tryz.prog f (#[.int .i64 (lo + k)] ++ cs) w' fun e w'' => e = .returned (.bool (is (lo + k))) ∧ Below w'.heap.size w' w'') :
    Calls Tryz.prog 67 #[.int .i64 lo, .int .i64 hi, .func (.func f) #[] cs] w (RunsOf (runTo is lo N) w) := by
  obtain ⟨i0, hi0, iz0, iz1, iz2⟩ := info_parts info_rg
  have HH := Lib.hid H
  have HNE := Lib.hid hN
  have hlen := Lib.hid (runTo_len is lo)
  have HR : Hid (∀ a cap w', Below w.heap.size w w' → w'.ownsRow w.heap.size 60 2 (.slice a (runTo is lo N).length cap) (runTo is lo N).length (flatR (runTo is lo N)) → RunsOf (runTo is lo N) w (.returned (.slice a (runTo is lo N).length cap)) w') :=
    fun a cap w' hb ho => ⟨a, cap, rfl, hb, ho⟩
  clear H hN
  generalize RunsOf (runTo is lo N) w = R at *
  go_enter Tryz.func67, Tryz.ntmps67
  go_wp2
  go_loopw [7, 8] (fun v i wr => ∃ k : Nat, k ≤ N ∧ i = .int .i64 (lo + k) ∧ (∃ a cap, v = .slice a (runTo is lo k).length cap ∧ Hid (wr.ownsRow w.heap.size 60 2 (.slice a (runTo is lo k).length cap) (runTo is lo k).length (flatR (runTo is lo k)))) ∧ Hid (Below w.heap.size w wr)) (fun _ i _ => (hi + 1 - intOf i).toNat)
  case atStart => exact ⟨0, Nat.zero_le _, by simp, ⟨none, 0, rfl, ⟨rfl, .inl ⟨rfl, rfl⟩⟩⟩, Below.refl _ _⟩
  case round =>
    obtain ⟨k, hk, rfl, ⟨a, cap, rfl, hown⟩, hbr⟩ := hrel
    have hz := hbr.out.size
    have hlk := hlen.out k
    by_cases hlt : k < N
    · have ht : lo + k ≤ hi := by have := HNE.out; omega
      have hb0 := hbr.out
      cases hik : is (lo + k) with
      | false =>
        have HRUN := Lib.hid (runTo_no hik)
        have HHk := Lib.hid (HH.out k wr hlt hb0)
        rw [hik] at HHk
        clear hik hb0
        generalize runTo is lo k = L at *
        go_wp2_with fail
        refine HHk.out.mono ?_
        rintro e w2 ⟨rfl, hb2⟩
        have hz2 := hb2.size
        have HOW := Lib.hid (hown.out.kept (w' := w2) (row := none) ⟨hb2.os, hb2.tape, hb2.output, hb2.size, fun k hk _ => hb2.block k hk⟩ (by cases a <;> simp [Value.ownBlock]))
        have HB := Lib.hid (Free.Grow.trans hbr.out hb2)
        clear hb2
        go_wp2
        go_roundw
        case rel => exact ⟨k + 1, by omega, by go_num, by rw [HRUN.out]; exact ⟨a, cap, rfl, HOW⟩, HB⟩
        case measure => simp [intOf]; omega
      | true =>
        have HRUN := Lib.hid (runTo_yes hik)
        have HHk := Lib.hid (HH.out k wr hlt hb0)
        rw [hik] at HHk
        clear hik hb0
        generalize runTo is lo k = L at *
        rcases List.eq_nil_or_concat L with hL | ⟨L0, ⟨r1, r2⟩, hL⟩
        · subst hL
          go_wp2_with fail
          refine HHk.out.mono ?_
          rintro e w2 ⟨rfl, hb2⟩
          have hz2 := hb2.size
          have HOW := Lib.hid (hown.out.kept (w' := w2) (row := none) ⟨hb2.os, hb2.tape, hb2.output, hb2.size, fun k hk _ => hb2.block k hk⟩ (by cases a <;> simp [Value.ownBlock]))
          have HB := Lib.hid (Free.Grow.trans hbr.out hb2)
          clear hb2
          go_wp2_with (at_builtin; go_must (refine wpList_append_own _ rfl (.tmp 15) (.tmp 19) 55 rfl w.heap.size 60 i0 _ 2 16 Tryz.underlying55 hi0 iz0 iz1 iz2 rfl (by omega) (.slice a 0 cap) 0 (flatR []) rfl (HOW.out.alloc _) ⟨w2.heap.size, 0, none⟩ 1 1 [.int .i64 (lo + k), .int .i64 (lo + k)] rfl rfl (cells_new _ [.int .i64 (lo + k), .int .i64 (lo + k)] _) (by intro u hu; simp at hu; rcases hu with rfl | rfl <;> rfl) (by first | (simp [maxLen]; done) | (simp [maxLen]; omega)) (by omega) (by simp; omega) ?_); intro v3 w3 hown3 hg3 hn3; obtain ⟨g3, cap3, rfl, -, -⟩ := hown3.form (by omega); have HOW3 := Lib.hid hown3; have HB3 := Lib.hid ((HB.out.alloc (by omega) (.cells #[.int .i64 (lo + k), .int .i64 (lo + k)] 60)).grown hg3 (by simp; omega) (fun k e => (HOW.out.lt k e).1)); clear hown3 hg3 hn3)
          go_roundw
          case measure => simp [intOf]; omega
          case rel => exact ⟨k + 1, by omega, by go_num, by rw [HRUN.out, grow_nil]; exact ⟨_, _, rfl, HOW3⟩, HB3⟩
        · rw [List.concat_eq_append] at hL
          subst hL
          obtain ⟨g, cap', hv, -, -⟩ := hown.out.form (by simp)
          obtain ⟨rfl, rfl⟩ : a = some ⟨g, 0, none⟩ ∧ cap = cap' := by injection hv with h1 h2 h3; exact ⟨h1, h3⟩
          simp only [List.length_append, List.length_cons, List.length_nil, Nat.zero_add] at hown hlk hv ⊢
          clear hv
          by_cases hr : r2 = lo + k - 1
          · have hrb : (r2 == lo + k - 1) = true := by simp [hr]
            have HRUN2 := Lib.hid (HRUN.out.trans (grow_last L0 r1 r2 (lo + k) hr))
            clear HRUN hr
            go_wp2_with fail
            refine HHk.out.mono ?_
            rintro e w2 ⟨rfl, hb2⟩
            have hz2 := hb2.size
            have HOW := Lib.hid (own_below hown.out hb2)
            have HB := Lib.hid (Free.Grow.trans hbr.out hb2)
            have c1 : w2.cell? ⟨g, L0.length * 2 + 1, none⟩ = some (.int .i64 r2) := by rw [HOW.out.cellAt _ (by omega), flatR_snoc, List.getElem?_append_right (by rw [flatR_len]; omega), flatR_len]; simp
            have f1 := HOW.out.frozenAt (L0.length * 2 + 1)
            clear hb2
            have hst := (HOW.out.stored (L0.length * 2 + 1) (.int .i64 (lo + k))).1
            rw [flatR_set] at hst
            have HST := Lib.hid hst
            have HB2 := Lib.hid (Free.Grow.setCell HB.out (p := ⟨g, L0.length * 2 + 1, none⟩) (HOW.out.lt g rfl).1 (.int .i64 (lo + k)))
            clear hst
            go_wp2
            go_roundw
            case measure => simp [intOf]; omega
            case rel => exact ⟨k + 1, by omega, by go_num, by rw [HRUN2.out]; exact ⟨some ⟨g, 0, none⟩, cap, by simp, by simpa using HST⟩, HB2⟩
          · have hrb : (r2 == lo + k - 1) = false := by simp [hr]
            have HRUN2 := Lib.hid (HRUN.out.trans (grow_new L0 r1 r2 (lo + k) hr))
            clear HRUN hr
            go_wp2_with fail
            refine HHk.out.mono ?_
            rintro e w2 ⟨rfl, hb2⟩
            have hz2 := hb2.size
            have HOW := Lib.hid (own_below hown.out hb2)
            have HB := Lib.hid (Free.Grow.trans hbr.out hb2)
            have c1 : w2.cell? ⟨g, L0.length * 2 + 1, none⟩ = some (.int .i64 r2) := by rw [HOW.out.cellAt _ (by omega), flatR_snoc, List.getElem?_append_right (by rw [flatR_len]; omega), flatR_len]; simp
            have f1 := HOW.out.frozenAt (L0.length * 2 + 1)
            clear hb2
            go_wp2_with (at_builtin; go_must (refine wpList_append_own _ rfl (.tmp 15) (.tmp 19) 55 rfl w.heap.size 60 i0 _ 2 16 Tryz.underlying55 hi0 iz0 iz1 iz2 rfl (by omega) (.slice (some ⟨g, 0, none⟩) (L0.length + 1) cap) (L0.length + 1) (flatR (L0 ++ [(r1, r2)])) rfl (HOW.out.alloc _) ⟨w2.heap.size, 0, none⟩ 1 1 [.int .i64 (lo + k), .int .i64 (lo + k)] rfl rfl (cells_new _ [.int .i64 (lo + k), .int .i64 (lo + k)] _) (by intro u hu; simp at hu; rcases hu with rfl | rfl <;> rfl) (by first | (simp [maxLen]; done) | (simp [maxLen]; omega)) (by omega) (by simp; omega) ?_); intro v3 w3 hown3 hg3 hn3; obtain ⟨g3, cap3, rfl, -, -⟩ := hown3.form (by omega); have HOW3 := Lib.hid hown3; have HB3 := Lib.hid ((HB.out.alloc (by omega) (.cells #[.int .i64 (lo + k), .int .i64 (lo + k)] 60)).grown hg3 (by simp; omega) (fun k e => (HOW.out.lt k e).1)); clear hown3 hg3 hn3)
            go_roundw
            case measure => simp [intOf]; omega
            case rel => exact ⟨k + 1, by omega, by go_num, by rw [HRUN2.out]; exact ⟨some ⟨g3, 0, none⟩, cap3, by simp, by simpa [flatR, rgC] using HOW3⟩, HB3⟩
    · have ht : ¬ lo + k ≤ hi := by have := HNE.out; omega
      obtain rfl : k = N := by omega
      go_wp2
      first | (go_ret; exact HR.out _ _ _ hbr.out hown.out) | exact HR.out _ _ _ hbr.out hown.out

def psE (nm : List UInt8) (bd : Int) (l : List St) (x y z mo : Int) : Int := firstE [(orbE nm bd l).2, placeE x y z, bnd mo 0 100000000]
def psOr (nm : List UInt8) (bd : Int) (l : List St) (x y z mo : Int) : List (Int × Int) := if psE nm bd l x y z mo = 0 then runTo (fun t => decide (nsq l x y z t ≤ mo * mo)) (frstT l) (nTicks l) else []
/-- A list of ranges of the call's own, and an error. -/
def PassesOf (L : List (Int × Int)) (c : Int) (w : World) (e : Ending) (w' : World) : Prop :=
  ∃ a cap, e = .returned (.tuple #[.slice a L.length cap, .int .i64 c]) ∧ Below w.heap.size w w' ∧ SlRgs w' a L

set_option maxRecDepth 100000 in
set_option maxHeartbeats 4000000 in
theorem Passes_any (nm : ByteArray) (bd x y z mo : Int) (a : Option Addr) (cap : Nat) (l : List St) (w : World) (hO : OrbIn w nm a cap l) :
    Calls Tryz.prog 33 #[obV nm bd a l.length cap, v3 x y z, .int .i64 mo] w (PassesOf (psOr nm.data.toList bd l x y z mo) (psE nm.data.toList bd l x y z mo) w) := by
  have HA := Lib.hid (fun w' (h : OrbIn w' nm a cap l) => pathOf_any nm bd a cap l w' h.nm h.sts h.cap h.len)
  by_cases h : psE nm.data.toList bd l x y z mo = 0
  · have h2 := (firstE_three _ _ _).1 h
    have hR := (orbE_right h2.1).1
    obtain ⟨hx, hy, hz⟩ := placeE_zero h2.2.1
    have hmo := bnd_ok.1 h2.2.2
    obtain ⟨b, off, rfl, hbw, hmem⟩ := hO.mem hR
    have hl := hR.n2
    have h40 := hR.n40
    have hle := hR.le 0 (l.length - 1) (by omega) (by omega)
    have ht0 : 0 ≤ frstT l := (hR.ok 0 (by omega)).t0
    have ht1 : lastT l ≤ 1000000000 := (hR.ok (l.length - 1) (by omega)).t1
    have hla : lastT l - frstT l ≤ 20000 := hR.arc (l.length - 1) (by omega)
    have hfl : frstT l ≤ lastT l := hle
    have HNN : Hid ((nTicks l : Int) = lastT l + 1 - frstT l) := by unfold nTicks; show _ = _; omega
    have HN : psOr nm.data.toList bd l x y z mo = runTo (fun t => decide (nsq l x y z t ≤ mo * mo)) (frstT l) (nTicks l) := by unfold psOr; rw [if_pos h]
    rw [HN, h]
    clear HN
    have HT := Lib.hid (fun w' (hS' : HasSts w' b off l) (hb' : b < w'.heap.size) => ticks_any nm bd b off cap l w' hS' hb' (by omega) (by omega) hO.cap)
    have HPI := Lib.hid (fun (B7 B3 B5 k : Nat) w' (hk : k < nTicks l) (hS' : HasSts w' b off l) (hb' : b < w'.heap.size) => PassIs_any nm bd (frstT l + k) x y z mo b off cap B7 B3 B5 l w' hR (by omega) (by have := HNN.out; omega) hS' hb' hO.cap hx hy hz hmo)
    have HRU := Lib.hid (fun (B7 B3 B5 : Nat) w' => runs_any 82 #[.pointer (some ⟨B7, 0, none⟩), .pointer (some ⟨B3, 0, none⟩), .pointer (some ⟨B5, 0, none⟩)] (fun t => decide (nsq l x y z t ≤ mo * mo)) (frstT l) (lastT l) (nTicks l) w' (enters_of Tryz.func82 (by kernel_rfl) rfl) (by omega) (by omega) HNN.out (by have := HNN.out; omega))
    have HR : Hid (∀ a cap w', Below w.heap.size w w' → SlRgs w' a (runTo (fun t => decide (nsq l x y z t ≤ mo * mo)) (frstT l) (nTicks l)) → PassesOf (runTo (fun t => decide (nsq l x y z t ≤ mo * mo)) (frstT l) (nTicks l)) 0 w (.returned (.tuple #[.slice a (runTo (fun t => decide (nsq l x y z t ≤ mo * mo)) (frstT l) (nTicks l)).length cap, .int .i64 0])) w') := fun a cap w' hb ho => ⟨a, cap, rfl, hb, ho⟩
    generalize PassesOf (runTo (fun t => decide (nsq l x y z t ≤ mo * mo)) (frstT l) (nTicks l)) 0 w = R at *
    have HO := Lib.hid hO
    have HM := Lib.hid hmem
    have hE0 : (firstE [(orbE nm.data.toList bd l).2, placeE x y z, bnd mo 0 100000000] != 0) = false := by rw [show firstE [(orbE nm.data.toList bd l).2, placeE x y z, bnd mo 0 100000000] = 0 from h]; rfl
    clear h hO h2 hmem
    generalize (orbE nm.data.toList bd l).2 = c at *
    go_enter Tryz.func33, Tryz.ntmps33
    go_wp2_with (go_at_call 62; refine (HA.out _ (HO.out.below (by repeat' first | with_reducible exact Below.refl _ _ | with_reducible assumption | with_reducible refine Free.Grow.alloc ?_ _ | with_reducible refine Free.Grow.setCell ?_ (by first | omega | (simp; done) | (simp; omega)) _ | with_reducible refine Free.Grow.drew ?_ | with_reducible refine Free.Grow.trans ?_ (by assumption)))).mono ?_; rintro e w1 ⟨rfl, hb1⟩; have hc1 := (Free.cells_of hb1).1; have hf1 := (Free.cells_of hb1).2; have hz1 := hb1.size; (try simp only [World.size_alloc, World.size_setCell, World.size_drew] at hz1); (try (have : w.heap.size < w1.heap.size := (by omega))); (try (have : w.heap.size < w1.heap.size + 1 := (by omega))); (try (have : w.heap.size < w1.heap.size + 1 + 1 := (by omega))); (try (have : w.heap.size + 1 < w1.heap.size := (by omega))); (try (have : w.heap.size + 1 < w1.heap.size + 1 := (by omega))); (try (have : w.heap.size + 1 < w1.heap.size + 1 + 1 := (by omega))); (try (have : w.heap.size + 1 + 1 < w1.heap.size := (by omega))); (try (have : w.heap.size + 1 + 1 < w1.heap.size + 1 := (by omega))); (try (have : w.heap.size + 1 + 1 < w1.heap.size + 1 + 1 := (by omega))); (try (have : w.heap.size + 1 + 1 + 1 < w1.heap.size := (by omega))); (try (have : w.heap.size + 1 + 1 + 1 < w1.heap.size + 1 := (by omega))); (try (have : w.heap.size + 1 + 1 + 1 < w1.heap.size + 1 + 1 := (by omega))))
    refine Free.wp_region 5 #[0, 0, 2, 0, 14, 31, 63, 127] (by kernel_rfl) (by kernel_rfl) ?_
    simp only [List.take_succ_cons, List.take_zero]
    iterate 5
      refine Free.E.q (by rfl) ?_
      apply Exists.intro
      refine ⟨fun u w' hc hb => ?_, ?_⟩
      go_simp
      (try go_ints); (try simp only [Ob.ite_imx, Ob.ite_imn]); first | exact rfl | (go_simp; exact rfl) | ((go_at_call 74; exact checkPlace_any _ _ _ _)) | ((go_at_call 81; exact Free.Calls.grow (bound_any _ _ _ _))) | (simp only [↓IntWalk.iteOmega]; (try go_simp); exact rfl)
      simp only [Act.put, List.setIfInBounds_toArray, List.set_cons_zero, List.set_cons_succ, List.nil_append, List.cons_append]
    refine Free.E.nil (fun u w2 S hF => ?_)
    have hb2 := hF.below
    clear hF
    have hc2 := (Free.cells_of hb2).1
    have hf2 := (Free.cells_of hb2).2
    have hz2 := hb2.size
    try simp only [World.size_alloc, World.size_setCell, World.size_drew] at hz2
    (try (have : w.heap.size < w2.heap.size := (by omega)))
    (try (have : w.heap.size < w2.heap.size + 1 := (by omega)))
    (try (have : w.heap.size < w2.heap.size + 1 + 1 := (by omega)))
    (try (have : w.heap.size + 1 < w2.heap.size := (by omega)))
    (try (have : w.heap.size + 1 < w2.heap.size + 1 := (by omega)))
    (try (have : w.heap.size + 1 < w2.heap.size + 1 + 1 := (by omega)))
    (try (have : w.heap.size + 1 + 1 < w2.heap.size := (by omega)))
    (try (have : w.heap.size + 1 + 1 < w2.heap.size + 1 := (by omega)))
    (try (have : w.heap.size + 1 + 1 < w2.heap.size + 1 + 1 := (by omega)))
    (try (have : w.heap.size + 1 + 1 + 1 < w2.heap.size := (by omega)))
    (try (have : w.heap.size + 1 + 1 + 1 < w2.heap.size + 1 := (by omega)))
    (try (have : w.heap.size + 1 + 1 + 1 < w2.heap.size + 1 + 1 := (by omega)))
    (try (have : w1.heap.size < w2.heap.size := (by omega)))
    (try (have : w1.heap.size < w2.heap.size + 1 := (by omega)))
    (try (have : w1.heap.size < w2.heap.size + 1 + 1 := (by omega)))
    (try (have : w1.heap.size + 1 < w2.heap.size := (by omega)))
    (try (have : w1.heap.size + 1 < w2.heap.size + 1 := (by omega)))
    (try (have : w1.heap.size + 1 < w2.heap.size + 1 + 1 := (by omega)))
    (try (have : w1.heap.size + 1 + 1 < w2.heap.size := (by omega)))
    (try (have : w1.heap.size + 1 + 1 < w2.heap.size + 1 := (by omega)))
    (try (have : w1.heap.size + 1 + 1 < w2.heap.size + 1 + 1 := (by omega)))
    (try (have : w1.heap.size + 1 + 1 + 1 < w2.heap.size := (by omega)))
    (try (have : w1.heap.size + 1 + 1 + 1 < w2.heap.size + 1 := (by omega)))
    (try (have : w1.heap.size + 1 + 1 + 1 < w2.heap.size + 1 + 1 := (by omega)))
    simp only [List.drop_succ_cons, List.drop_zero, List.drop_nil]
    go_wp2_with (go_at_call 63; refine (first3_any _ c (placeE x y z) (bnd mo 0 100000000) _ (by simp [go_sem]) (by simp [go_sem]) (by simp [go_sem])).mono ?_; rintro e w' ⟨rfl, rfl⟩)
    refine Free.wp_region 7 #[0, 1, 3, 0, 11, 27, 0, 127, 255, 511] (by kernel_rfl) (by kernel_rfl) ?_
    simp only [List.take_succ_cons, List.take_zero]
    iterate 7
      refine Free.E.q (by rfl) ?_
      apply Exists.intro
      refine ⟨fun u w' hc hb => ?_, ?_⟩
      go_simp
      (try go_ints); (try simp only [Ob.ite_imx, Ob.ite_imn]); first | exact rfl | (go_simp; exact rfl) | ((go_at_call 64; exact HT.out _ (HM.out.below (B := w.heap.size) (by repeat' first | with_reducible exact Below.refl _ _ | with_reducible assumption | with_reducible refine Free.Grow.alloc ?_ _ | with_reducible refine Free.Grow.setCell ?_ (by first | omega | (simp; done) | (simp; omega)) _ | with_reducible refine Free.Grow.drew ?_ | with_reducible refine Free.Grow.trans ?_ (by assumption)) hbw) (by have := hb.size; simp only [World.size_alloc] at this; omega))) | (simp only [↓IntWalk.iteOmega]; (try go_simp); exact rfl)
      simp only [Act.put, List.setIfInBounds_toArray, List.set_cons_zero, List.set_cons_succ, List.nil_append, List.cons_append]
    refine Free.E.nil (fun u w3 S hF => ?_)
    have hb3 := hF.below
    clear hF
    have hc3 := (Free.cells_of hb3).1
    have hf3 := (Free.cells_of hb3).2
    have hz3 := hb3.size
    try simp only [World.size_alloc, World.size_setCell, World.size_drew] at hz3
    (try (have : w.heap.size < w3.heap.size := (by omega)))
    (try (have : w.heap.size < w3.heap.size + 1 := (by omega)))
    (try (have : w.heap.size < w3.heap.size + 1 + 1 := (by omega)))
    (try (have : w.heap.size + 1 < w3.heap.size := (by omega)))
    (try (have : w.heap.size + 1 < w3.heap.size + 1 := (by omega)))
    (try (have : w.heap.size + 1 < w3.heap.size + 1 + 1 := (by omega)))
    (try (have : w.heap.size + 1 + 1 < w3.heap.size := (by omega)))
    (try (have : w.heap.size + 1 + 1 < w3.heap.size + 1 := (by omega)))
    (try (have : w.heap.size + 1 + 1 < w3.heap.size + 1 + 1 := (by omega)))
    (try (have : w.heap.size + 1 + 1 + 1 < w3.heap.size := (by omega)))
    (try (have : w.heap.size + 1 + 1 + 1 < w3.heap.size + 1 := (by omega)))
    (try (have : w.heap.size + 1 + 1 + 1 < w3.heap.size + 1 + 1 := (by omega)))
    (try (have : w1.heap.size < w3.heap.size := (by omega)))
    (try (have : w1.heap.size < w3.heap.size + 1 := (by omega)))
    (try (have : w1.heap.size < w3.heap.size + 1 + 1 := (by omega)))
    (try (have : w1.heap.size + 1 < w3.heap.size := (by omega)))
    (try (have : w1.heap.size + 1 < w3.heap.size + 1 := (by omega)))
    (try (have : w1.heap.size + 1 < w3.heap.size + 1 + 1 := (by omega)))
    (try (have : w1.heap.size + 1 + 1 < w3.heap.size := (by omega)))
    (try (have : w1.heap.size + 1 + 1 < w3.heap.size + 1 := (by omega)))
    (try (have : w1.heap.size + 1 + 1 < w3.heap.size + 1 + 1 := (by omega)))
    (try (have : w1.heap.size + 1 + 1 + 1 < w3.heap.size := (by omega)))
    (try (have : w1.heap.size + 1 + 1 + 1 < w3.heap.size + 1 := (by omega)))
    (try (have : w1.heap.size + 1 + 1 + 1 < w3.heap.size + 1 + 1 := (by omega)))
    (try (have : w2.heap.size < w3.heap.size := (by omega)))
    (try (have : w2.heap.size < w3.heap.size + 1 := (by omega)))
    (try (have : w2.heap.size < w3.heap.size + 1 + 1 := (by omega)))
    (try (have : w2.heap.size + 1 < w3.heap.size := (by omega)))
    (try (have : w2.heap.size + 1 < w3.heap.size + 1 := (by omega)))
    (try (have : w2.heap.size + 1 < w3.heap.size + 1 + 1 := (by omega)))
    (try (have : w2.heap.size + 1 + 1 < w3.heap.size := (by omega)))
    (try (have : w2.heap.size + 1 + 1 < w3.heap.size + 1 := (by omega)))
    (try (have : w2.heap.size + 1 + 1 < w3.heap.size + 1 + 1 := (by omega)))
    (try (have : w2.heap.size + 1 + 1 + 1 < w3.heap.size := (by omega)))
    (try (have : w2.heap.size + 1 + 1 + 1 < w3.heap.size + 1 := (by omega)))
    (try (have : w2.heap.size + 1 + 1 + 1 < w3.heap.size + 1 + 1 := (by omega)))
    simp only [List.drop_succ_cons, List.drop_zero, List.drop_nil]
    go_wp2_with (go_at_call 67; go_must (refine (HRU.out w1.heap.size (w.heap.size + 1) (w.heap.size + 1 + 1) _ (fun k w'' hk hb'' => by simpa using HPI.out w1.heap.size (w.heap.size + 1) (w.heap.size + 1 + 1) k w'' hk (HM.out.below (B := w.heap.size) (by repeat' first | with_reducible exact Below.refl _ _ | with_reducible assumption | with_reducible refine Free.Grow.alloc ?_ _ | with_reducible refine Free.Grow.setCell ?_ (by first | omega | (simp; done) | (simp; omega)) _ | with_reducible refine Free.Grow.drew ?_ | with_reducible refine Free.Grow.trans ?_ (by assumption)) hbw) (by have := hb''.size; omega) (by repeat' first | with_reducible assumption | with_reducible exact Free.blk_new _ (by first | rfl | (simp; done)) | with_reducible refine Free.blk_alloc_old ?_ | with_reducible refine Free.blk_drew ?_ | with_reducible refine Free.blk_setCell_far ?_ (by first | omega | (simp; done) | (simp; omega)) _ | with_reducible apply Free.blk_setCell_to | (show Array.setIfInBounds _ _ _ = _; first | exact rfl | (simp; done)) | with_reducible refine Free.blk_below ?_ (by assumption)) (by repeat' first | with_reducible assumption | with_reducible exact Free.blk_new _ (by first | rfl | (simp; done)) | with_reducible refine Free.blk_alloc_old ?_ | with_reducible refine Free.blk_drew ?_ | with_reducible refine Free.blk_setCell_far ?_ (by first | omega | (simp; done) | (simp; omega)) _ | with_reducible apply Free.blk_setCell_to | (show Array.setIfInBounds _ _ _ = _; first | exact rfl | (simp; done)) | with_reducible refine Free.blk_below ?_ (by assumption)) (by repeat' first | with_reducible assumption | with_reducible exact Free.blk_new _ (by first | rfl | (simp; done)) | with_reducible refine Free.blk_alloc_old ?_ | with_reducible refine Free.blk_drew ?_ | with_reducible refine Free.blk_setCell_far ?_ (by first | omega | (simp; done) | (simp; omega)) _ | with_reducible apply Free.blk_setCell_to | (show Array.setIfInBounds _ _ _ = _; first | exact rfl | (simp; done)) | with_reducible refine Free.blk_below ?_ (by assumption)))).mono ?_); rintro e w5 ⟨a5, cap5, rfl, hb5, how5⟩; have HOW := Lib.hid how5; clear how5)
    first | (go_ret2; exact HR.out _ _ _ (by repeat' first | with_reducible exact Below.refl _ _ | with_reducible assumption | with_reducible refine Free.Grow.alloc ?_ _ | with_reducible refine Free.Grow.setCell ?_ (by first | omega | (simp; done) | (simp; omega)) _ | with_reducible refine Free.Grow.drew ?_ | with_reducible refine Free.Grow.trans ?_ (by assumption)) (SlRgs.of_own rfl HOW.out)) | exact HR.out _ _ _ (by repeat' first | with_reducible exact Below.refl _ _ | with_reducible assumption | with_reducible refine Free.Grow.alloc ?_ _ | with_reducible refine Free.Grow.setCell ?_ (by first | omega | (simp; done) | (simp; omega)) _ | with_reducible refine Free.Grow.drew ?_ | with_reducible refine Free.Grow.trans ?_ (by assumption)) (SlRgs.of_own rfl HOW.out)
  · have HN : psOr nm.data.toList bd l x y z mo = [] := by unfold psOr; rw [if_neg h]
    rw [HN]
    clear HN
    have hE0 : (firstE [(orbE nm.data.toList bd l).2, placeE x y z, bnd mo 0 100000000] != 0) = true := by simpa [psE] using h
    have HO := Lib.hid hO
    have HR : Hid (∀ w', Below w.heap.size w w' → PassesOf [] (psE nm.data.toList bd l x y z mo) w (.returned (.tuple #[.slice none 0 0, .int .i64 (psE nm.data.toList bd l x y z mo)])) w') := fun w' hb => ⟨none, 0, rfl, hb, ⟨fun h => absurd rfl h⟩⟩
    generalize PassesOf [] (psE nm.data.toList bd l x y z mo) w = R at *
    unfold psE at HR
    clear h hO
    generalize (orbE nm.data.toList bd l).2 = c at *
    go_enter Tryz.func33, Tryz.ntmps33
    go_wp2_with (go_at_call 62; refine (HA.out _ (HO.out.below (by repeat' first | with_reducible exact Below.refl _ _ | with_reducible assumption | with_reducible refine Free.Grow.alloc ?_ _ | with_reducible refine Free.Grow.setCell ?_ (by first | omega | (simp; done) | (simp; omega)) _ | with_reducible refine Free.Grow.drew ?_ | with_reducible refine Free.Grow.trans ?_ (by assumption)))).mono ?_; rintro e w1 ⟨rfl, hb1⟩; have hc1 := (Free.cells_of hb1).1; have hf1 := (Free.cells_of hb1).2; have hz1 := hb1.size; (try simp only [World.size_alloc, World.size_setCell, World.size_drew] at hz1); (try (have : w.heap.size < w1.heap.size := (by omega))); (try (have : w.heap.size < w1.heap.size + 1 := (by omega))); (try (have : w.heap.size < w1.heap.size + 1 + 1 := (by omega))); (try (have : w.heap.size + 1 < w1.heap.size := (by omega))); (try (have : w.heap.size + 1 < w1.heap.size + 1 := (by omega))); (try (have : w.heap.size + 1 < w1.heap.size + 1 + 1 := (by omega))); (try (have : w.heap.size + 1 + 1 < w1.heap.size := (by omega))); (try (have : w.heap.size + 1 + 1 < w1.heap.size + 1 := (by omega))); (try (have : w.heap.size + 1 + 1 < w1.heap.size + 1 + 1 := (by omega))); (try (have : w.heap.size + 1 + 1 + 1 < w1.heap.size := (by omega))); (try (have : w.heap.size + 1 + 1 + 1 < w1.heap.size + 1 := (by omega))); (try (have : w.heap.size + 1 + 1 + 1 < w1.heap.size + 1 + 1 := (by omega))))
    refine Free.wp_region 5 #[0, 0, 2, 0, 14, 31, 63, 127] (by kernel_rfl) (by kernel_rfl) ?_
    simp only [List.take_succ_cons, List.take_zero]
    iterate 5
      refine Free.E.q (by rfl) ?_
      apply Exists.intro
      refine ⟨fun u w' hc hb => ?_, ?_⟩
      go_simp
      (try go_ints); (try simp only [Ob.ite_imx, Ob.ite_imn]); first | exact rfl | (go_simp; exact rfl) | ((go_at_call 74; exact checkPlace_any _ _ _ _)) | ((go_at_call 81; exact Free.Calls.grow (bound_any _ _ _ _))) | (simp only [↓IntWalk.iteOmega]; (try go_simp); exact rfl)
      simp only [Act.put, List.setIfInBounds_toArray, List.set_cons_zero, List.set_cons_succ, List.nil_append, List.cons_append]
    refine Free.E.nil (fun u w2 S hF => ?_)
    have hb2 := hF.below
    clear hF
    have hc2 := (Free.cells_of hb2).1
    have hf2 := (Free.cells_of hb2).2
    have hz2 := hb2.size
    try simp only [World.size_alloc, World.size_setCell, World.size_drew] at hz2
    (try (have : w.heap.size < w2.heap.size := (by omega)))
    (try (have : w.heap.size < w2.heap.size + 1 := (by omega)))
    (try (have : w.heap.size < w2.heap.size + 1 + 1 := (by omega)))
    (try (have : w.heap.size + 1 < w2.heap.size := (by omega)))
    (try (have : w.heap.size + 1 < w2.heap.size + 1 := (by omega)))
    (try (have : w.heap.size + 1 < w2.heap.size + 1 + 1 := (by omega)))
    (try (have : w.heap.size + 1 + 1 < w2.heap.size := (by omega)))
    (try (have : w.heap.size + 1 + 1 < w2.heap.size + 1 := (by omega)))
    (try (have : w.heap.size + 1 + 1 < w2.heap.size + 1 + 1 := (by omega)))
    (try (have : w.heap.size + 1 + 1 + 1 < w2.heap.size := (by omega)))
    (try (have : w.heap.size + 1 + 1 + 1 < w2.heap.size + 1 := (by omega)))
    (try (have : w.heap.size + 1 + 1 + 1 < w2.heap.size + 1 + 1 := (by omega)))
    (try (have : w1.heap.size < w2.heap.size := (by omega)))
    (try (have : w1.heap.size < w2.heap.size + 1 := (by omega)))
    (try (have : w1.heap.size < w2.heap.size + 1 + 1 := (by omega)))
    (try (have : w1.heap.size + 1 < w2.heap.size := (by omega)))
    (try (have : w1.heap.size + 1 < w2.heap.size + 1 := (by omega)))
    (try (have : w1.heap.size + 1 < w2.heap.size + 1 + 1 := (by omega)))
    (try (have : w1.heap.size + 1 + 1 < w2.heap.size := (by omega)))
    (try (have : w1.heap.size + 1 + 1 < w2.heap.size + 1 := (by omega)))
    (try (have : w1.heap.size + 1 + 1 < w2.heap.size + 1 + 1 := (by omega)))
    (try (have : w1.heap.size + 1 + 1 + 1 < w2.heap.size := (by omega)))
    (try (have : w1.heap.size + 1 + 1 + 1 < w2.heap.size + 1 := (by omega)))
    (try (have : w1.heap.size + 1 + 1 + 1 < w2.heap.size + 1 + 1 := (by omega)))
    simp only [List.drop_succ_cons, List.drop_zero, List.drop_nil]
    go_wp2_with (go_at_call 63; refine (first3_any _ c (placeE x y z) (bnd mo 0 100000000) _ (by simp [go_sem]) (by simp [go_sem]) (by simp [go_sem])).mono ?_; rintro e w' ⟨rfl, rfl⟩)
    first | (go_ret2; exact HR.out _ (by repeat' first | with_reducible exact Below.refl _ _ | with_reducible assumption | with_reducible refine Free.Grow.alloc ?_ _ | with_reducible refine Free.Grow.setCell ?_ (by first | omega | (simp; done) | (simp; omega)) _ | with_reducible refine Free.Grow.drew ?_ | with_reducible refine Free.Grow.trans ?_ (by assumption))) | exact HR.out _ (by repeat' first | with_reducible exact Below.refl _ _ | with_reducible assumption | with_reducible refine Free.Grow.alloc ?_ _ | with_reducible refine Free.Grow.setCell ?_ (by first | omega | (simp; done) | (simp; omega)) _ | with_reducible refine Free.Grow.drew ?_ | with_reducible refine Free.Grow.trans ?_ (by assumption))
end Go.Proofs.YthhhkjbhhjcjoaaGreatDoor
