/- Chapter 2: the ticks of an orbit, one by one. -/
import Derived.Test.YthhhkjbhhjcjoaaGreatDoor02y
import Derived.Test.YthhhkjbhhjcjoaaGreatDoor02Spec7
import Derived.Test.YthhhkjbhhjcjoaaGreatDoorFreeIn
import Derived.Shelf.Abstract
import Derived.Shelf.RegionOpen
set_option linter.unusedSimpArgs false
set_option linter.unusedVariables false
namespace Go.Proofs.YthhhkjbhhjcjoaaGreatDoor
open Go.RowKit Go.Ob Go.Shelf
attribute [local go_sem] Oper.semAt_some

theorem HasSts.keeps {w w' : World} {b off : Nat} {l : List St} (h : HasSts w b off l) {n₀ n₂ : Nat} (hk : Free.Keeps n₀ n₂ w w') (hb : b < n₀) (hlt : b < w.heap.size) : HasSts w' b off l := fun k hk' => by
  have hc : ∀ o, w'.cell? ⟨b, o, none⟩ = w.cell? ⟨b, o, none⟩ := fun o => by
    have := hk.block b hlt (.inl hb)
    simp [World.cell?, this]
  simp only [hc]
  exact h k hk'

set_option maxRecDepth 100000 in
set_option maxHeartbeats 2000000 in
theorem each_in (m : Nat) (hm : 1 ≤ m) (nm : ByteArray) (bd : Int) (b off cap : Nat) (l : List St) (w : World) (hR : Right bd l) (n₀ n₂ : Nat) (hS : HasSts w b off l) (hbn : b < n₀) (hnn : n₀ ≤ n₂) (hn : n₀ ≤ w.heap.size) (hcap : l.length ≤ cap) :
    Free.EachAt m Tryz.prog 77 #[obV nm bd (some ⟨b, off, none⟩) l.length cap] (fun k => #[.int .i64 (frstT l + k)]) (nTicks l) n₀ n₂ w := by
  intro lp J Jx W hW hn2 hJ hJx hY h0
  have hS' := hS.below hW (by omega)
  have hl := hR.n2
  have h40 := hR.n40
  have hle := hR.le 0 (l.length - 1) (by omega) (by omega)
  have hf0 := hR.ok 0 (by omega)
  have hf1 := hR.ok (l.length - 1) (by omega)
  have hWz := hW.size
  have t0 : 0 ≤ frstT l := hf0.t0
  have t1 : lastT l ≤ 1000000000 := hf1.t1
  have t2 : frstT l ≤ lastT l := hle
  have HN : Hid ((nTicks l : Int) = lastT l + 1 - frstT l) := by unfold nTicks; show _ = _; omega
  have HT := Lib.hid (fun w' (hS' : HasSts w' b off l) (hb' : b < w'.heap.size) => ticks_any nm bd b off cap l w' hS' hb' (by omega) (by omega) hcap)
  clear hf0 hf1 hle hS
  have HS := Lib.hid hS'
  have HJ := Lib.hid hJ
  have HJx := Lib.hid hJx
  have HY := Lib.hid hY
  have H0 := Lib.hid h0
  clear hS' hJ hJx hY h0
  generalize nTicks l = N at *
  refine callsIn_of_wp Tryz.func77 rfl trivial ?_
  simp only [Tryz.ntmps77, List.size_toArray, List.length_cons, List.length_nil, Nat.reduceAdd, Nat.reduceSub, Array.replicate_succ, Array.replicate_zero, List.push_toArray, List.append_toArray, List.nil_append, List.cons_append]
  gi_wp2_with (refine ⟨trivial, ?_⟩; gi_at_call 64; refine (callsIn_wide.2 (HT.out _ (HS.out.below (B := W.heap.size) (by repeat' first | with_reducible exact Below.refl _ _ | with_reducible assumption | with_reducible refine Free.Grow.alloc ?_ _ | with_reducible refine Free.Grow.setCell ?_ (by first | omega | (simp; done) | (simp; omega)) _ | with_reducible refine Free.Grow.drew ?_ | with_reducible refine Free.Grow.trans ?_ (by assumption)) (by omega)) (by simp; omega))).mono ?_; rintro e w1 ⟨rfl, hb1⟩; have hc1 := (Free.cells_of hb1).1; have hf1 := (Free.cells_of hb1).2; have hz1 := hb1.size; (try simp only [World.size_alloc, World.size_setCell, World.size_drew] at hz1); (try (have : W.heap.size < w1.heap.size := (by omega))); (try (have : W.heap.size < w1.heap.size + 1 := (by omega))); (try (have : W.heap.size < w1.heap.size + 1 + 1 := (by omega))); (try (have : W.heap.size + 1 < w1.heap.size := (by omega))); (try (have : W.heap.size + 1 < w1.heap.size + 1 := (by omega))); (try (have : W.heap.size + 1 < w1.heap.size + 1 + 1 := (by omega))); (try (have : W.heap.size + 1 + 1 < w1.heap.size := (by omega))); (try (have : W.heap.size + 1 + 1 < w1.heap.size + 1 := (by omega))); (try (have : W.heap.size + 1 + 1 < w1.heap.size + 1 + 1 := (by omega))); (try (have : W.heap.size + 1 + 1 + 1 < w1.heap.size := (by omega))); (try (have : W.heap.size + 1 + 1 + 1 < w1.heap.size + 1 := (by omega))); (try (have : W.heap.size + 1 + 1 + 1 < w1.heap.size + 1 + 1 := (by omega))))
  have hbW : Below W.heap.size W w1 := by repeat' first | with_reducible exact Below.refl _ _ | with_reducible assumption | with_reducible refine Free.Grow.alloc ?_ _ | with_reducible refine Free.Grow.setCell ?_ (by first | omega | (simp; done) | (simp; omega)) _ | with_reducible refine Free.Grow.drew ?_ | with_reducible refine Free.Grow.trans ?_ (by assumption)
  have c0 : w1.cell? ⟨W.heap.size, 0, none⟩ = some (.string nm) := by rw [hc1 _ _ (by simp)]; simp [go_sem]
  have c1 : w1.cell? ⟨W.heap.size, 1, none⟩ = some (.int .i64 bd) := by rw [hc1 _ _ (by simp)]; simp [go_sem]
  have c2 : w1.cell? ⟨W.heap.size, 2, none⟩ = some (.slice (some ⟨b, off, none⟩) l.length cap) := by rw [hc1 _ _ (by simp)]; simp [go_sem]
  have HS1 := Lib.hid (HS.out.below hbW (by omega))
  have H1 := Lib.hid (HJ.out 0 _ _ H0.out hbW)
  have hz : W.heap.size < w1.heap.size := by omega
  clear hc1 hf1 hb1 H0 HS
  gi_loopw [4] (fun v wr => ∃ k : Nat, k ≤ N ∧ v = .int .i64 (frstT l + k) ∧ Hid (J k wr) ∧ Hid (Free.Keeps n₀ n₂ w1 wr) ∧ w1.heap.size ≤ wr.heap.size) (fun v _ => (lastT l + 1 - intOf v).toNat)
  case atStart => exact ⟨0, Nat.zero_le _, by simp, H1, Free.Keeps.refl _ _ _, Nat.le_refl _⟩
  case round =>
    obtain ⟨k, hk, rfl, hJk, hKk, hzz⟩ := hrel
    have hNN := HN.out
    have d0 := (hKk.out.cell 0 hz (.inr (by omega))).trans c0
    have d1 := (hKk.out.cell 1 hz (.inr (by omega))).trans c1
    have d2 := (hKk.out.cell 2 hz (.inr (by omega))).trans c2
    have HSr := Lib.hid (HS1.out.keeps hKk.out hbn (by omega))
    clear c0 c1 c2 hNN
    by_cases hlt : k < N
    · have hle' : frstT l + k ≤ lastT l := by have := HN.out; omega
      gi_wp2_with (refine ⟨trivial, ?_⟩; gi_at_call 64; refine (callsIn_wide.2 (HT.out _ (HSr.out) (by omega))).mono ?_; rintro e w2 ⟨rfl, hb2⟩; have hc2 := (Free.cells_of hb2).1; have hf2 := (Free.cells_of hb2).2; have hz2 := hb2.size; (try simp only [World.size_alloc, World.size_setCell, World.size_drew] at hz2); (try (have : w1.heap.size < w2.heap.size := (by omega))); (try (have : w1.heap.size < w2.heap.size + 1 := (by omega))); (try (have : w1.heap.size < w2.heap.size + 1 + 1 := (by omega))); (try (have : w1.heap.size + 1 < w2.heap.size := (by omega))); (try (have : w1.heap.size + 1 < w2.heap.size + 1 := (by omega))); (try (have : w1.heap.size + 1 < w2.heap.size + 1 + 1 := (by omega))); (try (have : w1.heap.size + 1 + 1 < w2.heap.size := (by omega))); (try (have : w1.heap.size + 1 + 1 < w2.heap.size + 1 := (by omega))); (try (have : w1.heap.size + 1 + 1 < w2.heap.size + 1 + 1 := (by omega))); (try (have : w1.heap.size + 1 + 1 + 1 < w2.heap.size := (by omega))); (try (have : w1.heap.size + 1 + 1 + 1 < w2.heap.size + 1 := (by omega))); (try (have : w1.heap.size + 1 + 1 + 1 < w2.heap.size + 1 + 1 := (by omega))); (try (have : wr.heap.size < w2.heap.size := (by omega))); (try (have : wr.heap.size < w2.heap.size + 1 := (by omega))); (try (have : wr.heap.size < w2.heap.size + 1 + 1 := (by omega))); (try (have : wr.heap.size + 1 < w2.heap.size := (by omega))); (try (have : wr.heap.size + 1 < w2.heap.size + 1 := (by omega))); (try (have : wr.heap.size + 1 < w2.heap.size + 1 + 1 := (by omega))); (try (have : wr.heap.size + 1 + 1 < w2.heap.size := (by omega))); (try (have : wr.heap.size + 1 + 1 < w2.heap.size + 1 := (by omega))); (try (have : wr.heap.size + 1 + 1 < w2.heap.size + 1 + 1 := (by omega))); (try (have : wr.heap.size + 1 + 1 + 1 < w2.heap.size := (by omega))); (try (have : wr.heap.size + 1 + 1 + 1 < w2.heap.size + 1 := (by omega))); (try (have : wr.heap.size + 1 + 1 + 1 < w2.heap.size + 1 + 1 := (by omega))); obtain ⟨fn, tmps, asg, bdy, hy, hR⟩ := HY.out k w2 (HJ.out _ _ _ hJk.out hb2) hlt)
      refine hR.mono ?_
      rintro e W3 (⟨rfl, hJ3, hk3⟩ | ⟨rfl, hJx3⟩)
      · have HJ3 := Lib.hid hJ3
        have HK3 := Lib.hid ((hKk.out.grow hb2).trans hk3)
        have hs3 := hk3.size
        clear hJ3 hk3
        gi_wp2
        go_roundw
        case rel => exact ⟨k + 1, by omega, by go_num, HJ3, HK3, by omega⟩
        case measure => simp [intOf]; omega
      · have HJx3 := Lib.hid hJx3
        clear hJx3
        gi_wp2
        refine bodyPost_ret (results_none rfl _ _ _) rfl ?_
        exact ⟨⟨_, rfl⟩, .inr ⟨k + 1, by omega, HJx3.out⟩⟩
    · obtain rfl : k = N := by omega
      have hle' : ¬ frstT l + k ≤ lastT l := by have := HN.out; omega
      gi_wp2_with (refine ⟨trivial, ?_⟩; gi_at_call 64; refine (callsIn_wide.2 (HT.out _ (HSr.out) (by omega))).mono ?_; rintro e w2 ⟨rfl, hb2⟩; have hc2 := (Free.cells_of hb2).1; have hf2 := (Free.cells_of hb2).2; have hz2 := hb2.size; (try simp only [World.size_alloc, World.size_setCell, World.size_drew] at hz2); (try (have : w1.heap.size < w2.heap.size := (by omega))); (try (have : w1.heap.size < w2.heap.size + 1 := (by omega))); (try (have : w1.heap.size < w2.heap.size + 1 + 1 := (by omega))); (try (have : w1.heap.size + 1 < w2.heap.size := (by omega))); (try (have : w1.heap.size + 1 < w2.heap.size + 1 := (by omega))); (try (have : w1.heap.size + 1 < w2.heap.size + 1 + 1 := (by omega))); (try (have : w1.heap.size + 1 + 1 < w2.heap.size := (by omega))); (try (have : w1.heap.size + 1 + 1 < w2.heap.size + 1 := (by omega))); (try (have : w1.heap.size + 1 + 1 < w2.heap.size + 1 + 1 := (by omega))); (try (have : w1.heap.size + 1 + 1 + 1 < w2.heap.size := (by omega))); (try (have : w1.heap.size + 1 + 1 + 1 < w2.heap.size + 1 := (by omega))); (try (have : w1.heap.size + 1 + 1 + 1 < w2.heap.size + 1 + 1 := (by omega))); (try (have : wr.heap.size < w2.heap.size := (by omega))); (try (have : wr.heap.size < w2.heap.size + 1 := (by omega))); (try (have : wr.heap.size < w2.heap.size + 1 + 1 := (by omega))); (try (have : wr.heap.size + 1 < w2.heap.size := (by omega))); (try (have : wr.heap.size + 1 < w2.heap.size + 1 := (by omega))); (try (have : wr.heap.size + 1 < w2.heap.size + 1 + 1 := (by omega))); (try (have : wr.heap.size + 1 + 1 < w2.heap.size := (by omega))); (try (have : wr.heap.size + 1 + 1 < w2.heap.size + 1 := (by omega))); (try (have : wr.heap.size + 1 + 1 < w2.heap.size + 1 + 1 := (by omega))); (try (have : wr.heap.size + 1 + 1 + 1 < w2.heap.size := (by omega))); (try (have : wr.heap.size + 1 + 1 + 1 < w2.heap.size + 1 := (by omega))); (try (have : wr.heap.size + 1 + 1 + 1 < w2.heap.size + 1 + 1 := (by omega))))
      go_end0
      exact ⟨⟨_, rfl⟩, .inl (HJ.out _ _ _ hJk.out hb2)⟩
end Go.Proofs.YthhhkjbhhjcjoaaGreatDoor
