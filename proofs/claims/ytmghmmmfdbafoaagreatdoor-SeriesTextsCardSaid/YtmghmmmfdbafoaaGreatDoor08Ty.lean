/- SeriesTexts: the walks of the statement. -/
import Derived.Test.YtmghmmmfdbafoaaGreatDoor08H
import Derived.Test.YtmghmmmfdbafoaaGreatDoor08y
import Derived.Test.YtmghmmmfdbafoaaGreatDoor08rp
import Derived.Test.YtmghmmmfdbafoaaGreatDoor08rt
set_option linter.unusedSimpArgs false
set_option linter.unusedVariables false
section
namespace Go.Proofs.YtmghmmmfdbafoaaGreatDoor
open Go Go.RowKit Go.Ab Go.Sr Go.Lib Go.Tx
set_option maxRecDepth 100000
set_option maxHeartbeats 4000000
/-- What a text may be. -/
theorem prs_form (t : List UInt8) : (∃ i c, prsP t = ([], [], i, c)) ∨ ∃ nm es, es ≠ [] ∧ es.length ≤ 20 ∧ prsP t = (nm, es, 0, 0) := by
  unfold prsP
  split
  · exact .inl ⟨_, _, rfl⟩
  · split
    · exact .inl ⟨_, _, rfl⟩
    · split
      · rename_i hc
        refine .inr ⟨_, _, ?_, (srE_right hc).1.n20, rfl⟩
        intro h
        rw [h] at hc
        exact srE_nil hc
      · exact .inl ⟨_, _, rfl⟩
theorem ACallsW.stillW {N0 : Nat} {W0 : World} {P : Program} {f : FuncId} {args : List Value} {m m' : Mem} {v : Value} (h : ACallsW N0 W0 P f args m v m') (hro : m.ro) (hv : flat v = true) : PCallsW N0 W0 P f args m v := by
  intro ρ args' w hG hdom hargs hm
  refine (h ⟨w, fun _ => False, ρ, m.length, hdom, []⟩ ρ args' w ⟨hG, fun _ _ h => h⟩ hargs ⟨rfl, rfl, rfl, Nat.le_refl _, fun _ _ _ => rfl, fun _ _ => rfl, Nat.le_refl _, hdom, hm, fun b blk pl hb ho => by rw [hro b blk hb] at ho; cases ho⟩).mono ?_
  rintro e w' ⟨v', ρ', rfl, hx, hvr, hs⟩
  refine ⟨v', rfl, ?_, ⟨hs.os, hs.tape, hs.output, hs.size, fun k hk => hs.same k hk id⟩⟩
  rw [hvr.of_flat hv]
  exact .flat hv
theorem PCallsW.anyW {N0 : Nat} {W0 : World} {P : Program} {f : FuncId} {args : List Value} {v : Value} (h : PCallsW N0 W0 P f args [] v) (hk : args.all flat = true) (hv : flat v = true) (m : Mem) : PCallsW N0 W0 P f args m v :=
  PCallsW.of_calls hk hv fun w hW => by
    refine (h (fun _ => none) args.toArray w hW (fun b pl hb => by cases hb) (.tuple (by simp) fun i hi hi' => ?_) (fun b blk hb => by simp [Mem.at] at hb)).mono ?_
    · simp only [List.getElem_toArray]
      exact .flat (List.all_eq_true.1 hk _ (List.getElem_mem _))
    · rintro e w' ⟨v', rfl, hr, hb⟩
      exact ⟨by rw [hr.of_flat hv], hb⟩
section
variable {N0 : Nat} {W0 : World}
theorem Parse_n (L : Lw N0 W0) (t : List UInt8) (ht : t.length ≤ 1000 ∨ 60000 < t.length) {i : Nat} {c : Int} (hp : prsP t = ([], [], i, c)) (m : Mem) : PCallsW N0 W0 Tryz.prog 9 [.string (tx t)] m (.tuple #[noS, .int .i64 (i : Nat), .int .i64 c]) := by
  have h : ACallsW N0 W0 Tryz.prog 9 [.string (tx t)] [] (resP (prsP t)) (slM (prsP t).2.1) := by
    rcases ht with ht | ht
    · exact Parse_l L t ht
    · exact Parse_big t ht
  rw [hp] at h
  exact PCallsW.anyW (ACallsW.stillW h ro_nil rfl) rfl rfl m
theorem Parse_s (L : Lw N0 W0) (t : List UInt8) (ht : t.length ≤ 1000 ∨ 60000 < t.length) {nm : List UInt8} {es : List Ep} (hes : es ≠ []) (hp : prsP t = (nm, es, 0, 0)) (m : Mem) :
    ACallsW N0 W0 Tryz.prog 9 [.string (tx t)] m (.tuple #[srI (tx nm) m.length es.length, .int .i64 0, .int .i64 0]) (m ++ [some ⟨flatE es, true, 4⟩]) := by
  have h : ACallsW N0 W0 Tryz.prog 9 [.string (tx t)] [] (resP (prsP t)) (slM (prsP t).2.1) := by
    rcases ht with ht | ht
    · exact Parse_l L t ht
    · exact Parse_big t ht
  rw [hp, resP_ne hes, slM_ne hes] at h
  exact ACallsW.viaN (m0 := []) (x := some ⟨flatE es, true, 4⟩) (fun _ => 0) h (fun x bk hx => by simp [Mem.at] at hx) (fun x hx => absurd hx (by simp)) (fun blk h => by cases h; exact ⟨rfl, flatE_scal _⟩) rfl rfl (by simp [rn3, rn2, rn1, τn]) rfl
end
theorem rParse_any (t : List UInt8) (ht : t.length ≤ 1000 ∨ 60000 < t.length) : ACalls Tryz.prog 12 [.string (tx t)] [] (resP (prsP t)) (slM (prsP t).2.1) := by
  rcases ht with ht | ht
  · exact rParse_l t ht
  · exact rParse_big t ht
theorem rParse_n (t : List UInt8) (ht : t.length ≤ 1000 ∨ 60000 < t.length) {i : Nat} {c : Int} (hp : prsP t = ([], [], i, c)) (m : Mem) : PCalls Tryz.prog 12 [.string (tx t)] m (.tuple #[noS, .int .i64 (i : Nat), .int .i64 c]) := by
  have h := rParse_any t ht
  rw [hp] at h
  exact PCalls.any (ACalls.still h ro_nil rfl) rfl rfl m
theorem rParse_s (t : List UInt8) (ht : t.length ≤ 1000 ∨ 60000 < t.length) {nm : List UInt8} {es : List Ep} (hes : es ≠ []) (hp : prsP t = (nm, es, 0, 0)) (m : Mem) :
    ACalls Tryz.prog 12 [.string (tx t)] m (.tuple #[srI (tx nm) m.length es.length, .int .i64 0, .int .i64 0]) (m ++ [some ⟨flatE es, true, 4⟩]) := by
  have h := rParse_any t ht
  rw [hp, resP_ne hes, slM_ne hes] at h
  exact ACalls.viaN (m0 := []) (x := some ⟨flatE es, true, 4⟩) (fun _ => 0) h (fun x bk hx => by simp [Mem.at] at hx) (fun x hx => absurd hx (by simp)) (fun blk h => by cases h; exact ⟨rfl, flatE_scal _⟩) rfl rfl (by simp [rn3, rn2, rn1, τn]) rfl
section
attribute [local irreducible] OQ OW AL AW AD AF SW
theorem Print_e {m : Mem} {b : Nat} {blk : Blk} {l : List Ep} {nm : ByteArray} (c : Int) (hn : nm.size ≤ 1000) (hl : l.length ≤ 1000) (hc : srE nm.data.toList l = c) (hc0 : c ≠ 0) (hb : m.at b = some blk) (hk : blk.cells = flatE l) : PCalls Tryz.prog 6 [srI nm b l.length] m (.tuple #[.string ⟨#[]⟩, .int .i64 c]) := by
  refine PCalls.viaS (m0 := [some ⟨flatE l, false, blk.esz⟩]) [b] (args0 := [srI nm 0 l.length]) (v0 := .tuple #[.string ⟨#[]⟩, .int .i64 c]) ?_ (ro1 _ rfl) ⟨⟨_, hb, rfl, (fun h => nomatch h), .inl ⟨hk, flatE_scal _⟩⟩, trivial⟩ rfl rfl rfl rfl
  have HC := fun (m : Mem) (b : Nat) (k : Blk) (hb : m.at b = some k) (hk : k.cells = flatE l) => CheckSeries_q (m := m) nm (.blk b k rfl hb hk) hn hl
  rw [hc] at HC
  refine PCalls.enter (t := [srI nm 0 l.length, undef, undef, undef, undef, undef, undef, undef, undef, undef, undef, undef, undef, undef, undef, undef, undef, undef, undef, undef, undef, undef, undef, undef, undef, undef, undef, undef, undef, undef, undef, undef, undef, undef, undef, undef, undef, undef]) Tryz.func6 rfl (ro1 _ rfl) rfl fun E => ?_
  repeat' (first
    | with_reducible refine Then.n ?_
    | with_reducible refine Then.r ?_
    | with_reducible refine Then.x ?_
    | with_reducible refine InB.n ?_
    | with_reducible refine InB.r ?_
    | with_reducible refine InB.hit ?_
    | with_reducible refine InB.miss (by decide) ?_
    | ((with_reducible refine AL.on ?_); first
      | ((first | ((with_reducible refine AL.k_assign ?_); first | (refine AL.q rfl (OQ.assign (by conv => lhs; whnf)) ?_)) | ((with_reducible refine AL.k_load ?_); first | refine AL.q rfl (OQ.loadN (ty := 24) (n := 2) rfl (by kernel_rfl) (by kernel_rfl) rfl) ?_ | (refine AL.q rfl (OQ.load1 (ty := 9) rfl (by kernel_rfl) (by conv => lhs; whnf)) ?_) | (refine AL.q rfl (OQ.load1 (ty := 22) rfl (by kernel_rfl) (by conv => lhs; whnf)) ?_) | refine AL.q rfl (OQ.loadN (ty := 64) (n := 4) rfl (by kernel_rfl) (by kernel_rfl) rfl) ?_ | (refine AL.q rfl (OQ.load1 (ty := 3) rfl (by kernel_rfl) (by conv => lhs; whnf)) ?_)) | ((with_reducible refine AL.k_move ?_); first | (refine AL.q rfl (OQ.move (by conv => lhs; whnf)) ?_)) | ((with_reducible refine AL.k_binOp ?_); first | refine AL.q rfl (OQ.neq rfl rfl) ?_ | refine AL.q rfl (OQ.cat rfl rfl (by omega)) ?_ | refine AL.q rfl (OQ.lss rfl rfl) ?_ | refine AL.q rfl (OQ.addi rfl rfl (by omega)) ?_ | refine AL.q rfl (OQ.add rfl rfl) ?_) | ((with_reducible refine AL.k_fieldAddr ?_); first | refine AL.q rfl (OQ.fieldA (ty := 24) (i := 0) (n := 1) (off := 0) (g := false) rfl (by kernel_rfl) (by decide)) ?_ | refine AL.q rfl (OQ.fieldA (ty := 24) (i := 1) (n := 1) (off := 1) (g := false) rfl (by kernel_rfl) (by decide)) ?_ | refine AL.q rfl (OQ.fieldA (ty := 64) (i := 0) (n := 1) (off := 0) (g := false) rfl (by kernel_rfl) (by decide)) ?_ | refine AL.q rfl (OQ.fieldA (ty := 64) (i := 1) (n := 1) (off := 1) (g := false) rfl (by kernel_rfl) (by decide)) ?_ | refine AL.q rfl (OQ.fieldA (ty := 64) (i := 2) (n := 1) (off := 2) (g := false) rfl (by kernel_rfl) (by decide)) ?_ | refine AL.q rfl (OQ.fieldA (ty := 64) (i := 3) (n := 1) (off := 3) (g := false) rfl (by kernel_rfl) (by decide)) ?_) | ((with_reducible refine AL.k_call ?_); first | refine AL.q rfl (OQ.lenS (xt := 22) (r := (none, 4, true)) rfl (by kernel_rfl)) ?_) | ((with_reducible refine AL.k_indexAddr ?_); first | refine AL.q rfl (OQ.idxAddr (ty := 22) (z := 4) (g := true) rfl rfl (by kernel_rfl) (by omega) (by omega)) ?_)); (conv => (arg 5; try tactic => exact nrm)))
      | ((first | first | refine AL.pcall (g := 19) rfl (by kernel_rfl) rfl (HC _ _ _ rfl rfl) ?_); (conv => (arg 5; try tactic => exact nrm)))
      | ((first | ((with_reducible refine AL.k_box ?_); first | (refine AL.w rfl (OW.box (by conv => lhs; whnf) (by intro r h; cases h)) ?_)) | ((with_reducible refine AL.k_alloc ?_); first | refine AL.w rfl (OW.alloc (ty := 64) (z := [.int .i64 0, .int .i64 0, .int .i64 0, .int .i64 0]) (by kernel_rfl) rfl) ?_) | ((with_reducible refine AL.k_store ?_); first | (refine AL.w rfl (OW.store (ty := 64) (n := 4) rfl (by conv => lhs; whnf) rfl rfl (by kernel_rfl) rfl rfl (by decide) rfl (Nat.le_of_ble_eq_true rfl) (by intro r h; cases h)) ?_)) | ((with_reducible refine AL.k_buildSlice ?_); first | refine AL.w rfl (OW.buildSl (ty := 83) (zs := [.int .i64 0]) (n := 1) (g := false) (by kernel_rfl) (by kernel_rfl) rfl rfl rfl (by decide) (by decide) rfl rfl) ?_)); (conv => (arg 5; try tactic => exact nrm)); (conv => (arg 6; try tactic => exact nrm)))
      | refine AL.nil ?_)
    | ((with_reducible refine AW.on ?_); first
      | refine AW.seq ?_
      | refine AW.skip ?_
      | refine AW.exit ?_
      | refine AW.ret ?_
      | refine AW.block ?_
      | (refine AW.region (id := 4) ?_; exfalso; omega; done)
      | refine AW.region ?_
      | (refine AW.conds rfl (fun hc => ?_) (fun hc => ?_) <;> (try simp only [decide_eq_true_eq, decide_eq_false_iff_not, Bool.not_true, Bool.not_false, Bool.not_eq_true', Bool.not_eq_false', Int.not_lt, Int.not_le, Classical.not_not, ne_eq] at hc) <;> first | (exfalso; first | contradiction | (omega); done) | skip))
    | ((with_reducible refine FinP.on ?_); (first | refine FinP.ret (.tmp (by conv => lhs; whnf) (.tmp (by conv => lhs; whnf) .nil)) ?_ rfl | refine FinP.end (.tmp (by conv => lhs; whnf) (.tmp (by conv => lhs; whnf) .nil)) ?_ rfl); (try simp only [pack, List.drop, List.take]); all_goals (rfl)))
theorem Same_c' (nm : ByteArray) (l : List Ep) (hl : l.length ≤ 1000) (z0 z1 : Nat) :
    PCalls Tryz.prog 11 [srI nm 0 l.length, srI nm 1 l.length] [some ⟨flatE l, false, z0⟩, some ⟨flatE l, false, z1⟩] (.bool true) := by
  have hle := fun {m : Mem} {b : Nat} {blk : Blk} (hb : m.at b = some blk) (hc : blk.cells = flatE l) (k : Nat) (hk : k < l.length) => flatE_ld hb hc k hk
  refine PCalls.enter (t := [srI nm 0 l.length, srI nm 1 l.length, undef, undef, undef, undef, undef, undef, undef, undef, undef, undef, undef, undef, undef, undef, undef, undef, undef, undef, undef, undef, undef, undef, undef, undef, undef, undef, undef, undef, undef, undef, undef, undef, undef, undef, undef, undef]) Tryz.func11 rfl (ro2 _ _ rfl rfl) rfl fun E => ?_
  repeat' (first
    | with_reducible refine Then.n ?_
    | with_reducible refine Then.r ?_
    | with_reducible refine Then.x ?_
    | with_reducible refine InB.n ?_
    | with_reducible refine InB.r ?_
    | with_reducible refine InB.hit ?_
    | with_reducible refine InB.miss (by decide) ?_
    | ((with_reducible refine AL.on ?_); first
      | (refine AL.gd rfl ?_; first | (refine AL.gskip rfl rfl ?_; (conv => (arg 5; try tactic => exact nrm))) | (refine AL.gs1 rfl rfl (fun hc => ?_) (fun hc => ?_) <;> (try simp only [decide_eq_true_eq, decide_eq_false_iff_not, Bool.not_true, Bool.not_false, Bool.not_eq_true', Bool.not_eq_false', Int.not_lt, Int.not_le, Classical.not_not, ne_eq] at hc) <;> first | (exfalso; first | contradiction | (first | omega | (simp at *; done)); done) | (conv => (arg 5; try tactic => exact nrm))) | (refine AL.gs0 rfl rfl (fun hc => ?_) (fun hc => ?_) <;> (try simp only [decide_eq_true_eq, decide_eq_false_iff_not, Bool.not_true, Bool.not_false, Bool.not_eq_true', Bool.not_eq_false', Int.not_lt, Int.not_le, Classical.not_not, ne_eq] at hc) <;> first | (exfalso; first | contradiction | (first | omega | (simp at *; done)); done) | (conv => (arg 5; try tactic => exact nrm))))
      | ((first | ((with_reducible refine AL.k_load ?_); first | (refine AL.q rfl (OQ.load1 (ty := 9) rfl (by kernel_rfl) (by first | (exact hle rfl rfl _ (by omega)) | (conv => lhs; whnf))) ?_) | (refine AL.q rfl (OQ.load1 (ty := 22) rfl (by kernel_rfl) (by first | (exact hle rfl rfl _ (by omega)) | (conv => lhs; whnf))) ?_)) | ((with_reducible refine AL.k_assign ?_); first | (refine AL.q rfl (OQ.assign (by conv => lhs; whnf)) ?_)) | ((with_reducible refine AL.k_binOp ?_); first | refine AL.q rfl (OQ.strne rfl rfl) ?_ | refine AL.q rfl (OQ.neq rfl rfl) ?_ | refine AL.q rfl (OQ.lss rfl rfl) ?_ | refine AL.q rfl (OQ.addi rfl rfl (by omega)) ?_ | refine AL.q rfl (OQ.add rfl rfl) ?_) | ((with_reducible refine AL.k_move ?_); first | (refine AL.q rfl (OQ.move (by conv => lhs; whnf)) ?_)) | ((with_reducible refine AL.k_call ?_); first | refine AL.q rfl (OQ.lenS (xt := 22) (r := (none, 4, true)) rfl (by kernel_rfl)) ?_) | ((with_reducible refine AL.k_pick ?_); first | (refine AL.q rfl (OQ.pickT rfl (by with_reducible rfl) (by conv => lhs; whnf)) ?_) | (refine AL.q rfl (OQ.pickF rfl (by with_reducible rfl) (by conv => lhs; whnf)) ?_))); (conv => (arg 5; try tactic => exact nrm)))
      | ((first | first | refine AL.q rfl (OQ.fieldA (ty := 24) (i := 0) (n := 1) (off := 0) (g := false) rfl (by kernel_rfl) (by decide)) ?_ | refine AL.q rfl (OQ.fieldA (ty := 24) (i := 1) (n := 1) (off := 1) (g := false) rfl (by kernel_rfl) (by decide)) ?_); (conv => (arg 5; try tactic => exact nrm)))
      | ((first | first | (refine AL.w rfl (OW.box (by conv => lhs; whnf) (by intro r h; cases h)) ?_)); (conv => (arg 5; try tactic => exact nrm)); (conv => (arg 6; try tactic => exact nrm)))
      | (refine AL.bs rfl (fun hc => ?_) (fun hc => ?_) <;> (fail_if_success (with_reducible exact lit_no hc)) <;> (try simp only [decide_eq_true_eq, decide_eq_false_iff_not, Bool.not_true, Bool.not_false, Bool.not_eq_true', Bool.not_eq_false', Int.not_lt, Int.not_le, Classical.not_not, ne_eq] at hc) <;> first | (exfalso; first | contradiction | (first | omega | (simp at *; done)); done) | (conv => (arg 5; try tactic => exact nrm)))
      | refine AL.nil ?_)
    | ((with_reducible refine AW.on ?_); first
      | refine AW.seq ?_
      | refine AW.skip ?_
      | refine AW.exit ?_
      | refine AW.ret ?_
      | ((refine AW.block (id := 0) ?_); (refine AW.wk (Wk.forget [false, false, true, true, false, true, false, false, false, false, false, false, false, false, false, false, false, false, false, false, false, false, false, false, false, false, false, false, false, false, false, false, false, false, false, false, false, false] rfl) ?_); (conv => (arg 4; simp only [fgt, if_true, if_false, Bool.false_eq_true])); (refine AW.loop (fun n t' m => ∃ k : Nat, n = l.length - k ∧ k ≤ l.length ∧ t' = [junk, junk, .pointer (some ⟨2, 0, none⟩), .pointer (some ⟨3, 0, none⟩), junk, .int .i64 (k), junk, junk, junk, junk, junk, junk, junk, junk, junk, junk, junk, junk, junk, junk, junk, junk, junk, junk, junk, junk, junk, junk, junk, junk, junk, junk, junk, junk, junk, junk, junk, junk] ∧ m = [some ⟨flatE l, false, z0⟩, some ⟨flatE l, false, z1⟩, some ⟨[.string nm, .slice (some ⟨0, 0, none⟩) (l.length) INF], true, 0⟩, some ⟨[.string nm, .slice (some ⟨1, 0, none⟩) (l.length) INF], true, 0⟩]) (l.length) (by exact ⟨0, rfl, Nat.zero_le _, rfl, rfl⟩) ?_); (rintro n t' m ⟨k, rfl, hk, rfl, rfl⟩))
      | refine AW.block ?_
      | (refine AW.draw (id := 6) 11 #[0, 1, 0, 7, 15, 0, 32, 0, 224, 480, 1023] (by kernel_rfl) (by kernel_rfl) ?_; (conv => (arg 8; simp only [List.take_succ_cons, List.take_zero])))
      | (refine AW.region (id := 2) ?_; exfalso; first | omega | (simp at *; done); done)
      | (refine AW.region (id := 7) ?_; exfalso; first | omega | (simp at *; done); done)
      | refine AW.region ?_
      | (refine AW.conds rfl (fun hc => ?_) (fun hc => ?_) <;> (try simp only [decide_eq_true_eq, decide_eq_false_iff_not, Bool.not_true, Bool.not_false, Bool.not_eq_true', Bool.not_eq_false', Int.not_lt, Int.not_le, Classical.not_not, ne_eq] at hc) <;> first | (exfalso; first | contradiction | (first | omega | (simp at *; done)); done) | skip))
    | ((with_reducible refine AD.on ?_); first
      | ((first | ((with_reducible refine AD.k_load ?_); first | (refine AD.q rfl (OQ.load1 (ty := 22) rfl (by kernel_rfl) (by first | (exact hle rfl rfl _ (by omega)) | (conv => lhs; whnf))) rfl rfl rfl ?_) | refine AD.q rfl (OQ.loadN (ty := 64) (n := 4) rfl (by kernel_rfl) (by kernel_rfl) (by first | (exact hle rfl rfl _ (by omega)) | rfl)) rfl rfl rfl ?_) | ((with_reducible refine AD.k_move ?_); first | (refine AD.q rfl (OQ.move (by conv => lhs; whnf)) rfl rfl rfl ?_)) | ((with_reducible refine AD.k_binOp ?_); first | refine AD.q rfl (nel_t64 rfl rfl) rfl rfl rfl ?_)); (conv => (arg 10; try tactic => exact nrm)))
      | ((first | ((with_reducible refine AD.k_fieldAddr ?_); first | refine AD.q rfl (OQ.fieldA (ty := 24) (i := 1) (n := 1) (off := 1) (g := false) rfl (by kernel_rfl) (by decide)) rfl rfl rfl ?_) | ((with_reducible refine AD.k_indexAddr ?_); first | refine AD.q rfl (OQ.idxAddr (ty := 22) (z := 4) (g := true) rfl rfl (by kernel_rfl) (by omega) (by omega)) rfl rfl rfl ?_)); (conv => (arg 10; try tactic => exact nrm)))
      | (refine AD.nil ?_; (conv => (arg 4; simp only [List.drop_succ_cons, List.drop_zero, List.drop_nil])); (conv => (arg 5; try tactic => exact nrm)); (conv => (arg 6; try tactic => exact nrm))))
    | ((with_reducible refine ex_on ?_); (refine ⟨_, _, _, ?_, ?_, k + 1, rfl, (by omega), rfl, rfl⟩; omega; exact Wk.forget [false, false, true, true, false, true, false, false, false, false, false, false, false, false, false, false, false, false, false, false, false, false, false, false, false, false, false, false, false, false, false, false, false, false, false, false, false, false] rfl))
    | ((with_reducible refine FinP.on ?_); (first | refine FinP.ret (.tmp (by conv => lhs; whnf) .nil) ?_ rfl | refine FinP.end (.tmp (by conv => lhs; whnf) .nil) ?_ rfl); (try simp only [pack, List.drop, List.take]); all_goals (rfl)))
theorem Same_q' {m : Mem} {a b n : Nat} {k0 k1 : Blk} (nm : ByteArray) (l : List Ep) (hl : l.length ≤ 1000) (hn : l.length = n) (h0 : m.at a = some k0) (h1 : m.at b = some k1) (hc0 : k0.cells = flatE l) (hc1 : k1.cells = flatE l) :
    PCalls Tryz.prog 11 [srI nm a n, srI nm b n] m (.bool true) := by
  subst hn
  exact PCalls.viaS [a, b] (Same_c' nm l hl k0.esz k1.esz) (ro2 _ _ rfl rfl) ⟨⟨_, h0, rfl, (fun h => nomatch h), .inl ⟨hc0, flatE_scal _⟩⟩, ⟨_, h1, rfl, (fun h => nomatch h), .inl ⟨hc1, flatE_scal _⟩⟩, trivial⟩ rfl rfl rfl rfl
theorem Same_0' (m : Mem) : PCalls Tryz.prog 11 [noS, noS] m (.bool true) := by
  refine PCalls.any ?_ rfl rfl m
  refine PCalls.enter (t := [noS, noS, undef, undef, undef, undef, undef, undef, undef, undef, undef, undef, undef, undef, undef, undef, undef, undef, undef, undef, undef, undef, undef, undef, undef, undef, undef, undef, undef, undef, undef, undef, undef, undef, undef, undef, undef, undef]) Tryz.func11 rfl (ro_nil) rfl fun E => ?_
  repeat' (first
    | with_reducible refine Then.n ?_
    | with_reducible refine Then.r ?_
    | with_reducible refine Then.x ?_
    | with_reducible refine InB.n ?_
    | with_reducible refine InB.r ?_
    | with_reducible refine InB.hit ?_
    | with_reducible refine InB.miss (by decide) ?_
    | ((with_reducible refine AL.on ?_); first
      | (refine AL.gd rfl ?_; first | (refine AL.gskip rfl rfl ?_; (conv => (arg 5; try tactic => exact nrm))) | (refine AL.gs1 rfl rfl (fun hc => ?_) (fun hc => ?_) <;> (try simp only [decide_eq_true_eq, decide_eq_false_iff_not, Bool.not_true, Bool.not_false, Bool.not_eq_true', Bool.not_eq_false', Int.not_lt, Int.not_le, Classical.not_not, ne_eq] at hc) <;> first | (exfalso; first | contradiction | (first | omega | (simp at *; done)); done) | (conv => (arg 5; try tactic => exact nrm))) | (refine AL.gs0 rfl rfl (fun hc => ?_) (fun hc => ?_) <;> (try simp only [decide_eq_true_eq, decide_eq_false_iff_not, Bool.not_true, Bool.not_false, Bool.not_eq_true', Bool.not_eq_false', Int.not_lt, Int.not_le, Classical.not_not, ne_eq] at hc) <;> first | (exfalso; first | contradiction | (first | omega | (simp at *; done)); done) | (conv => (arg 5; try tactic => exact nrm))))
      | ((first | ((with_reducible refine AL.k_load ?_); first | (refine AL.q rfl (OQ.load1 (ty := 9) rfl (by kernel_rfl) (by conv => lhs; whnf)) ?_) | (refine AL.q rfl (OQ.load1 (ty := 22) rfl (by kernel_rfl) (by conv => lhs; whnf)) ?_)) | ((with_reducible refine AL.k_fieldAddr ?_); first | refine AL.q rfl (OQ.fieldA (ty := 24) (i := 0) (n := 1) (off := 0) (g := false) rfl (by kernel_rfl) (by decide)) ?_ | refine AL.q rfl (OQ.fieldA (ty := 24) (i := 1) (n := 1) (off := 1) (g := false) rfl (by kernel_rfl) (by decide)) ?_) | ((with_reducible refine AL.k_assign ?_); first | (refine AL.q rfl (OQ.assign (by conv => lhs; whnf)) ?_)) | ((with_reducible refine AL.k_binOp ?_); first | refine AL.q rfl (OQ.strne rfl rfl) ?_ | refine AL.q rfl (OQ.neq rfl rfl) ?_ | refine AL.q rfl (OQ.lss rfl rfl) ?_ | refine AL.q rfl (OQ.addi rfl rfl (by omega)) ?_ | refine AL.q rfl (OQ.add rfl rfl) ?_) | ((with_reducible refine AL.k_move ?_); first | (refine AL.q rfl (OQ.move (by conv => lhs; whnf)) ?_)) | ((with_reducible refine AL.k_call ?_); first | refine AL.q rfl (OQ.lenS (xt := 22) (r := (none, 4, true)) rfl (by kernel_rfl)) ?_) | ((with_reducible refine AL.k_pick ?_); first | (refine AL.q rfl (OQ.pickT rfl (by with_reducible rfl) (by conv => lhs; whnf)) ?_) | (refine AL.q rfl (OQ.pickF rfl (by with_reducible rfl) (by conv => lhs; whnf)) ?_))); (conv => (arg 5; try tactic => exact nrm)))
      | ((first | first | (refine AL.w rfl (OW.box (by conv => lhs; whnf) (by intro r h; cases h)) ?_)); (conv => (arg 5; try tactic => exact nrm)); (conv => (arg 6; try tactic => exact nrm)))
      | (refine AL.bs rfl (fun hc => ?_) (fun hc => ?_) <;> (fail_if_success (with_reducible exact lit_no hc)) <;> (try simp only [decide_eq_true_eq, decide_eq_false_iff_not, Bool.not_true, Bool.not_false, Bool.not_eq_true', Bool.not_eq_false', Int.not_lt, Int.not_le, Classical.not_not, ne_eq] at hc) <;> first | (exfalso; first | contradiction | (first | omega | (simp at *; done)); done) | (conv => (arg 5; try tactic => exact nrm)))
      | refine AL.nil ?_)
    | ((with_reducible refine AW.on ?_); first
      | refine AW.seq ?_
      | refine AW.skip ?_
      | refine AW.exit ?_
      | refine AW.ret ?_
      | (refine AW.block (id := 0) ?_; refine AW.unroll 1 ?_)
      | refine AW.block ?_
      | (refine AW.draw (id := 6) 11 #[0, 1, 0, 7, 15, 0, 32, 0, 224, 480, 1023] (by kernel_rfl) (by kernel_rfl) ?_; (conv => (arg 8; simp only [List.take_succ_cons, List.take_zero])))
      | (refine AW.region (id := 2) ?_; exfalso; first | omega | (simp at *; done); done)
      | refine AW.region ?_
      | (refine AW.conds rfl (fun hc => ?_) (fun hc => ?_) <;> (try simp only [decide_eq_true_eq, decide_eq_false_iff_not, Bool.not_true, Bool.not_false, Bool.not_eq_true', Bool.not_eq_false', Int.not_lt, Int.not_le, Classical.not_not, ne_eq] at hc) <;> first | (exfalso; first | contradiction | (first | omega | (simp at *; done)); done) | skip))
    | ((with_reducible refine AD.on ?_); first
      | ((first | ((with_reducible refine AD.k_load ?_); first | (refine AD.q rfl (OQ.load1 (ty := 22) rfl (by kernel_rfl) (by conv => lhs; whnf)) rfl rfl rfl ?_) | refine AD.q rfl (OQ.loadN (ty := 64) (n := 4) rfl (by kernel_rfl) (by kernel_rfl) rfl) rfl rfl rfl ?_) | ((with_reducible refine AD.k_fieldAddr ?_); first | refine AD.q rfl (OQ.fieldA (ty := 24) (i := 1) (n := 1) (off := 1) (g := false) rfl (by kernel_rfl) (by decide)) rfl rfl rfl ?_) | ((with_reducible refine AD.k_move ?_); first | (refine AD.q rfl (OQ.move (by conv => lhs; whnf)) rfl rfl rfl ?_)) | ((with_reducible refine AD.k_binOp ?_); first | refine AD.q rfl (nel_t64 rfl rfl) rfl rfl rfl ?_) | ((with_reducible refine AD.k_indexAddr ?_); first | refine AD.q rfl (OQ.idxAddr (ty := 22) (z := 4) (g := true) rfl rfl (by kernel_rfl) (by omega) (by omega)) rfl rfl rfl ?_)); (conv => (arg 10; try tactic => exact nrm)))
      | (refine AD.nil ?_; (conv => (arg 4; simp only [List.drop_succ_cons, List.drop_zero, List.drop_nil])); (conv => (arg 5; try tactic => exact nrm)); (conv => (arg 6; try tactic => exact nrm))))
    | with_reducible refine AR.s ?_
    | ((with_reducible refine AR.out ?_); first | omega | (simp at *; done); done)
    | ((with_reducible refine FinP.on ?_); (first | refine FinP.ret (.tmp (by conv => lhs; whnf) .nil) ?_ rfl | refine FinP.end (.tmp (by conv => lhs; whnf) .nil) ?_ rfl); (try simp only [pack, List.drop, List.take]); all_goals (rfl)))
/-- Not few, or a text of another length. -/
theorem TxL_n {v : Value} {m0 : Mem} {l : List Ep} (nm t : ByteArray) (h : Sh l v m0) (hn : (nm.size : Int) ≤ 9223372036854775807) (hl : (l.length : Int) ≤ 9223372036854775807) (hf : fewS nm.size l.length = false ∨ (500 < t.size ∧ t.size ≤ 60000) ∨ 60050 < t.size) : PCalls Tryz.prog 3 [srV nm v, .string t] m0 (.bool true) := by
  have HA := awake_q
  have HF := fun (m : Mem) (v : Value) (hS : SlE m v l) => few_q nm hS hn hl
  have hro := h.ro
  generalize fewS nm.size l.length = fw at *
  rcases h with ⟨rfl, rfl, h3⟩ | ⟨rfl, rfl, h3⟩ | ⟨z0, rfl, rfl⟩
  all_goals
    refine PCalls.enter (t := [srV nm _, .string t, undef, undef, undef, undef, undef, undef, undef, undef, undef, undef, undef, undef, undef, undef, undef, undef, undef, undef, undef, undef, undef, undef, undef, undef, undef, undef, undef, undef, undef, undef, undef, undef, undef, undef, undef, undef, undef, undef, undef, undef, undef, undef, undef, undef, undef, undef, undef, undef, undef, undef, undef, undef, undef, undef, undef, undef, undef, undef, undef, undef, undef, undef, undef, undef, undef, undef, undef, undef, undef, undef, undef, undef, undef, undef, undef, undef, undef, undef, undef, undef, undef, undef, undef, undef, undef, undef, undef, undef, undef, undef, undef, undef, undef, undef, undef, undef, undef, undef, undef, undef, undef, undef, undef, undef, undef]) Tryz.func3 rfl (hro) rfl fun E => ?_
    repeat' (first
      | with_reducible refine Then.n ?_
      | with_reducible refine Then.r ?_
      | with_reducible refine Then.x ?_
      | with_reducible refine InB.n ?_
      | with_reducible refine InB.r ?_
      | with_reducible refine InB.hit ?_
      | with_reducible refine InB.miss (by decide) ?_
      | ((with_reducible refine AL.on ?_); first
        | (refine AL.gd rfl ?_; first | (refine AL.gskip rfl rfl ?_; (conv => (arg 5; try tactic => exact nrm))) | (refine AL.gs1 rfl rfl (fun hc => ?_) (fun hc => ?_) <;> (try simp only [decide_eq_true_eq, decide_eq_false_iff_not, Bool.not_true, Bool.not_false, Bool.not_eq_true', Bool.not_eq_false', Int.not_lt, Int.not_le, Classical.not_not, ne_eq] at hc) <;> first | (exfalso; first | contradiction | (first | omega | (simp_all; done) | (simp_all; omega)); done) | (conv => (arg 5; try tactic => exact nrm))) | (refine AL.gs0 rfl rfl (fun hc => ?_) (fun hc => ?_) <;> (try simp only [decide_eq_true_eq, decide_eq_false_iff_not, Bool.not_true, Bool.not_false, Bool.not_eq_true', Bool.not_eq_false', Int.not_lt, Int.not_le, Classical.not_not, ne_eq] at hc) <;> first | (exfalso; first | contradiction | (first | omega | (simp_all; done) | (simp_all; omega)); done) | (conv => (arg 5; try tactic => exact nrm))))
        | ((first | ((with_reducible refine AL.k_move ?_); first | (refine AL.q rfl (OQ.move (by conv => lhs; whnf)) ?_)) | ((with_reducible refine AL.k_assign ?_); first | (refine AL.q rfl (OQ.assign (by conv => lhs; whnf)) ?_)) | ((with_reducible refine AL.k_call ?_); first | refine AL.q rfl (OQ.lenStr rfl Tryz.underlying9) ?_) | ((with_reducible refine AL.k_binOp ?_); first | refine AL.q rfl (OQ.gtr rfl rfl) ?_ | refine AL.q rfl (OQ.leq rfl rfl) ?_ | refine AL.q rfl (OQ.neq rfl rfl) ?_ | refine AL.q rfl (OQ.strne rfl rfl) ?_ | refine AL.q rfl (OQ.eql rfl rfl) ?_) | ((with_reducible refine AL.k_extract ?_); first | refine AL.q rfl (OQ.extract rfl rfl) ?_) | ((with_reducible refine AL.k_pick ?_); first | (refine AL.q rfl (OQ.pickT rfl (by with_reducible rfl) (by conv => lhs; whnf)) ?_) | (refine AL.q rfl (OQ.pickF rfl (by with_reducible rfl) (by conv => lhs; whnf)) ?_)) | ((with_reducible refine AL.k_load ?_); first | refine AL.q rfl (OQ.loadN (ty := 24) (n := 2) rfl (by kernel_rfl) (by kernel_rfl) rfl) ?_) | ((with_reducible refine AL.k_unOp ?_); first | refine AL.q rfl (OQ.not rfl) ?_)); (conv => (arg 5; try tactic => exact nrm)))
        | ((first | first | refine AL.pcall (g := 4) rfl (by kernel_rfl) rfl (HA _) ?_ | refine AL.pcall (g := 5) rfl (by kernel_rfl) rfl ((by first | exact HF _ _ (.blk 0 _ rfl rfl rfl) | exact HF _ _ (.nil h3 rfl) | exact HF _ _ (.lost h3 rfl))) ?_); (conv => (arg 5; try tactic => exact nrm)))
        | ((first | ((with_reducible refine AL.k_alloc ?_); first | refine AL.w rfl (OW.alloc (ty := 24) (z := [.string ⟨#[]⟩, .slice none 0 0]) (by kernel_rfl) rfl) ?_) | ((with_reducible refine AL.k_store ?_); first | (refine AL.w rfl (OW.store (ty := 24) (n := 2) rfl (by conv => lhs; whnf) rfl rfl (by kernel_rfl) rfl rfl (by decide) rfl (Nat.le_of_ble_eq_true rfl) (by intro r h; cases h)) ?_)) | ((with_reducible refine AL.k_box ?_); first | (refine AL.w rfl (OW.box (by conv => lhs; whnf) (by intro r h; cases h)) ?_))); (conv => (arg 5; try tactic => exact nrm)); (conv => (arg 6; try tactic => exact nrm)))
        | (refine AL.bs rfl (fun hc => ?_) (fun hc => ?_) <;> (fail_if_success (with_reducible exact lit_no hc)) <;> (try simp only [decide_eq_true_eq, decide_eq_false_iff_not, Bool.not_true, Bool.not_false, Bool.not_eq_true', Bool.not_eq_false', Int.not_lt, Int.not_le, Classical.not_not, ne_eq] at hc) <;> first | (exfalso; first | contradiction | (first | omega | (simp_all; done) | (simp_all; omega)); done) | (conv => (arg 5; try tactic => exact nrm)))
        | refine AL.nil ?_)
      | ((with_reducible refine AW.on ?_); first
        | refine AW.seq ?_
        | refine AW.skip ?_
        | refine AW.exit ?_
        | refine AW.ret ?_
        | refine AW.block ?_
        | (refine AW.region (id := 2) ?_; exfalso; first | omega | (simp_all; done) | (simp_all; omega); done)
        | (refine AW.region (id := 5) ?_; exfalso; first | omega | (simp_all; done) | (simp_all; omega); done)
        | refine AW.region ?_
        | (refine AW.conds rfl (fun hc => ?_) (fun hc => ?_) <;> (try simp only [decide_eq_true_eq, decide_eq_false_iff_not, Bool.not_true, Bool.not_false, Bool.not_eq_true', Bool.not_eq_false', Int.not_lt, Int.not_le, Classical.not_not, ne_eq] at hc) <;> first | (exfalso; first | contradiction | (first | omega | (simp_all; done) | (simp_all; omega)); done) | skip))
      | ((with_reducible refine FinP.on ?_); (first | refine FinP.ret (.tmp (by conv => lhs; whnf) .nil) ?_ rfl | refine FinP.end (.tmp (by conv => lhs; whnf) .nil) ?_ rfl); (try simp only [pack, List.drop, List.take]); all_goals (rfl)))
/-- How both read a text. -/
def RdT (N0 : Nat) (W0 : World) (t : ByteArray) : Prop :=
  (∃ (i : Nat) (c : Int), (∀ m, PCallsW N0 W0 Tryz.prog 9 [.string t] m (.tuple #[noS, .int .i64 (i : Nat), .int .i64 c])) ∧ ∀ m, PCalls Tryz.prog 12 [.string t] m (.tuple #[noS, .int .i64 (i : Nat), .int .i64 c])) ∨
  ∃ (nm : ByteArray) (es : List Ep), es.length ≤ 20 ∧ (∀ m, ACallsW N0 W0 Tryz.prog 9 [.string t] m (.tuple #[srI nm m.length es.length, .int .i64 0, .int .i64 0]) (m ++ [some ⟨flatE es, true, 4⟩])) ∧
    ∀ m, ACalls Tryz.prog 12 [.string t] m (.tuple #[srI nm m.length es.length, .int .i64 0, .int .i64 0]) (m ++ [some ⟨flatE es, true, 4⟩])
theorem rdT_of {N0 : Nat} {W0 : World} (L : Lw N0 W0) (t : List UInt8) (ht : t.length ≤ 1000 ∨ 60000 < t.length) : RdT N0 W0 (tx t) := by
  rcases prs_form t with ⟨i, c, hp⟩ | ⟨nm, es, hes, h20, hp⟩
  · exact .inl ⟨i, c, Parse_n L t ht hp, rParse_n t ht hp⟩
  · exact .inr ⟨tx nm, es, h20, Parse_s L t ht hes hp, rParse_s t ht hes hp⟩
/-- A wrong series. -/
theorem TxL_e {N0 : Nat} {W0 : World} {v : Value} {m0 : Mem} {l : List Ep} (nm t : ByteArray) (HT : RdT N0 W0 t) (h : Sh l v m0) (hn : nm.size ≤ 1000) (hl : l.length ≤ 1000) (hf : fewS nm.size l.length = true) (ht : t.size ≤ 500 ∨ (60000 < t.size ∧ t.size ≤ 60050)) (c : Int) (hc : srE nm.data.toList l = c) (hc0 : c ≠ 0) :
    PCallsW N0 W0 Tryz.prog 3 [srV nm v, .string t] m0 (.bool true) := by
  have HA := awake_q
  have HF := fun (m : Mem) (v : Value) (hS : SlE m v l) => few_q nm hS (by omega) (by omega)
  rw [hf] at HF
  have HC := fun (m : Mem) (v : Value) (hS : SlE m v l) => rCheckSeries_q nm hS hn hl
  rw [hc] at HC
  have HY := fun (m : Mem) (v : Value) (hS : SlE m v l) => Copy_q nm hS hl
  have HP := fun (m : Mem) (b : Nat) (blk : Blk) (hb : m.at b = some blk) (hk : blk.cells = flatE l) => Print_e (m := m) c hn hl hc hc0 hb hk
  have hro := h.ro
  clear hc hf
  rcases HT with ⟨i, d, HQ, HR⟩ | ⟨nm', es, hes, HQ, HR⟩
  all_goals
    rcases h with ⟨rfl, rfl, h3⟩ | ⟨rfl, rfl, h3⟩ | ⟨z0, rfl, rfl⟩
    all_goals
      refine PCallsW.enterJ (t := [srV nm _, .string t, undef, undef, undef, undef, undef, undef, undef, undef, undef, undef, undef, undef, undef, undef, undef, undef, undef, undef, undef, undef, undef, undef, undef, undef, undef, undef, undef, undef, undef, undef, undef, undef, undef, undef, undef, undef, undef, undef, undef, undef, undef, undef, undef, undef, undef, undef, undef, undef, undef, undef, undef, undef, undef, undef, undef, undef, undef, undef, undef, undef, undef, undef, undef, undef, undef, undef, undef, undef, undef, undef, undef, undef, undef, undef, undef, undef, undef, undef, undef, undef, undef, undef, undef, undef, undef, undef, undef, undef, undef, undef, undef, undef, undef, undef, undef, undef, undef, undef, undef, undef, undef, undef, undef, undef, undef]) Tryz.func3 rfl (hro) rfl fun E hE hG => ?_
      repeat' (first
        | with_reducible refine Then.n ?_
        | with_reducible refine Then.r ?_
        | with_reducible refine Then.x ?_
        | with_reducible refine InB.n ?_
        | with_reducible refine InB.r ?_
        | with_reducible refine InB.hit ?_
        | with_reducible refine InB.miss (by decide) ?_
        | ((with_reducible refine AL.on ?_); first
          | (refine AL.gd rfl ?_; first | (refine AL.gskip rfl rfl ?_; (conv => (arg 5; try tactic => exact nrm))) | (refine AL.gs1 rfl rfl (fun hc => ?_) (fun hc => ?_) <;> (try simp only [decide_eq_true_eq, decide_eq_false_iff_not, Bool.not_true, Bool.not_false, Bool.not_eq_true', Bool.not_eq_false', Int.not_lt, Int.not_le, Classical.not_not, ne_eq] at hc) <;> first | (exfalso; first | contradiction | (first | omega | (simp at hc; done)); done) | (conv => (arg 5; try tactic => exact nrm))) | (refine AL.gs0 rfl rfl (fun hc => ?_) (fun hc => ?_) <;> (try simp only [decide_eq_true_eq, decide_eq_false_iff_not, Bool.not_true, Bool.not_false, Bool.not_eq_true', Bool.not_eq_false', Int.not_lt, Int.not_le, Classical.not_not, ne_eq] at hc) <;> first | (exfalso; first | contradiction | (first | omega | (simp at hc; done)); done) | (conv => (arg 5; try tactic => exact nrm))))
          | ((first | ((with_reducible refine AL.k_move ?_); first | (refine AL.q rfl (OQ.move (by conv => lhs; whnf)) ?_)) | ((with_reducible refine AL.k_assign ?_); first | (refine AL.q rfl (OQ.assign (by conv => lhs; whnf)) ?_)) | ((with_reducible refine AL.k_call ?_); first | refine AL.q rfl (OQ.lenStr rfl Tryz.underlying9) ?_) | ((with_reducible refine AL.k_binOp ?_); first | refine AL.q rfl (OQ.gtr rfl rfl) ?_ | refine AL.q rfl (OQ.leq rfl rfl) ?_ | refine AL.q rfl (OQ.neq rfl rfl) ?_ | refine AL.q rfl (OQ.strne rfl rfl) ?_ | refine AL.q rfl (OQ.eql rfl rfl) ?_) | ((with_reducible refine AL.k_extract ?_); first | refine AL.q rfl (OQ.extract rfl rfl) ?_) | ((with_reducible refine AL.k_pick ?_); first | (refine AL.q rfl (OQ.pickT rfl (by with_reducible rfl) (by conv => lhs; whnf)) ?_) | (refine AL.q rfl (OQ.pickF rfl (by with_reducible rfl) (by conv => lhs; whnf)) ?_)) | ((with_reducible refine AL.k_load ?_); first | refine AL.q rfl (OQ.loadN (ty := 24) (n := 2) rfl (by kernel_rfl) (by kernel_rfl) rfl) ?_) | ((with_reducible refine AL.k_unOp ?_); first | refine AL.q rfl (OQ.not rfl) ?_)); (conv => (arg 5; try tactic => exact nrm)))
          | ((first | first | refine AL.pcall (g := 4) rfl (by kernel_rfl) rfl (HA _) ?_ | refine AL.pcall (g := 5) rfl (by kernel_rfl) rfl ((by first | exact HF _ _ (.blk 0 _ rfl rfl rfl) | exact HF _ _ (.nil h3 rfl) | exact HF _ _ (.lost h3 rfl))) ?_ | refine AL.pcall (g := 6) rfl (by kernel_rfl) rfl ((by exact HP _ _ _ rfl rfl)) ?_ | refine AL.pcall (g := 8) rfl (by kernel_rfl) rfl ((by first | exact HC _ _ (.blk 0 _ rfl rfl rfl) | exact HC _ _ (.nil h3 rfl) | exact HC _ _ (.lost h3 rfl))) ?_ | refine AL.pcall (g := 11) rfl (by kernel_rfl) rfl ((by first | exact Same_0' _ | exact Same_q' _ _ (by omega) rfl rfl rfl rfl rfl)) ?_); (conv => (arg 5; try tactic => exact nrm)))
          | ((first | ((with_reducible refine AL.k_call ?_); first | refine AL.acall (g := 7) rfl (by kernel_rfl) rfl ((by first | exact HY _ _ (.blk 0 _ rfl rfl rfl) | exact HY _ _ (.nil h3 rfl) | exact HY _ _ (.lost h3 rfl))) ?_ | refine AL.acallW hG (g := 9) rfl (by kernel_rfl) rfl ((by first | exact (HQ _).acalls | exact HQ _)) ?_ | refine AL.acall (g := 12) rfl (by kernel_rfl) rfl ((by exact HR _)) ?_ | refine AL.pcall (g := 12) rfl (by kernel_rfl) rfl ((by exact HR _)) ?_) | ((with_reducible refine AL.k_alloc ?_); first | refine AL.w rfl (OW.alloc (ty := 24) (z := [.string ⟨#[]⟩, .slice none 0 0]) (by kernel_rfl) rfl) ?_) | ((with_reducible refine AL.k_store ?_); first | (refine AL.w rfl (OW.store (ty := 24) (n := 2) rfl (by conv => lhs; whnf) rfl rfl (by kernel_rfl) rfl rfl (by decide) rfl (Nat.le_of_ble_eq_true rfl) (by intro r h; cases h)) ?_)) | ((with_reducible refine AL.k_box ?_); first | (refine AL.w rfl (OW.box (by conv => lhs; whnf) (by intro r h; cases h)) ?_))); (conv => (arg 5; try tactic => exact nrm)); (conv => (arg 6; try tactic => exact nrm)))
          | (refine AL.bs rfl (fun hc => ?_) (fun hc => ?_) <;> (fail_if_success (with_reducible exact lit_no hc)) <;> (try simp only [decide_eq_true_eq, decide_eq_false_iff_not, Bool.not_true, Bool.not_false, Bool.not_eq_true', Bool.not_eq_false', Int.not_lt, Int.not_le, Classical.not_not, ne_eq] at hc) <;> first | (exfalso; first | contradiction | (first | omega | (simp at hc; done)); done) | (conv => (arg 5; try tactic => exact nrm)))
          | refine AL.nil ?_)
        | ((with_reducible refine AW.on ?_); first
          | refine AW.seq ?_
          | refine AW.skip ?_
          | refine AW.exit ?_
          | refine AW.ret ?_
          | refine AW.block ?_
          | (refine AW.region (id := 2) ?_; exfalso; first | omega | (simp at hc; done); done)
          | (refine AW.region (id := 4) ?_; exfalso; first | omega | (simp at hc; done); done)
          | (refine AW.region (id := 9) ?_; exfalso; first | omega | (simp at hc; done); done)
          | refine AW.region ?_
          | (refine AW.conds rfl (fun hc => ?_) (fun hc => ?_) <;> (try simp only [decide_eq_true_eq, decide_eq_false_iff_not, Bool.not_true, Bool.not_false, Bool.not_eq_true', Bool.not_eq_false', Int.not_lt, Int.not_le, Classical.not_not, ne_eq] at hc) <;> first | (exfalso; first | contradiction | (first | omega | (simp at hc; done)); done) | skip))
        | ((with_reducible refine FinJ.on ?_); first | exact FinJ.ret (.tmp (by conv => lhs; whnf) .nil) (jle_flat rfl) | exact FinJ.end (.tmp (by conv => lhs; whnf) .nil) (jle_flat rfl)))
/-- A right series. -/
theorem TxL_y {N0 : Nat} {W0 : World} (L : Lw N0 W0) {l : List Ep} (N : List UInt8) (t : ByteArray) (HT : RdT N0 W0 t) (hf : fewS N.length l.length = true) (ht : t.size ≤ 500 ∨ (60000 < t.size ∧ t.size ≤ 60050)) (hc : srE N l = 0) (z0 : Nat) :
    PCallsW N0 W0 Tryz.prog 3 [srI (tx N) 0 l.length, .string t] [some ⟨flatE l, false, z0⟩] (.bool true) := by
  have hR := srE_right hc
  have hb := of_decide_eq_true hf
  have h20 := hR.1.n20
  have hne : l ≠ [] := fun h => by have := hR.1.n1; rw [h] at this; simp at this
  have hn : (tx N).size ≤ 1000 := by rw [tx_size]; omega
  have hl : l.length ≤ 1000 := by omega
  have HA := awake_q
  have HF := fun (m : Mem) (v : Value) (hS : SlE m v l) => few_q (tx N) hS (by omega) (by omega)
  rw [tx_size, hf] at HF
  have HC := fun (m : Mem) (v : Value) (hS : SlE m v l) => rCheckSeries_q (tx N) hS hn hl
  simp only [tx_list, hc] at HC
  have HY := fun (m : Mem) (v : Value) (hS : SlE m v l) => Copy_q (tx N) hS hl
  have HP := fun (m : Mem) (b : Nat) (blk : Blk) (hb : m.at b = some blk) (hk : blk.cells = flatE l) => PCallsW.viaS (m := m) [b] (args := [srI (tx N) b l.length]) (v := .tuple #[.string (tx (fmtP N l)), .int .i64 0]) (Print_y L N l hc blk.esz) (ro1 _ rfl) ⟨⟨_, hb, rfl, (fun h => nomatch h), .inl ⟨hk, flatE_scal _⟩⟩, trivial⟩ rfl rfl rfl rfl
  have HO := fun (m : Mem) (b : Nat) (blk : Blk) (hb : m.at b = some blk) (hk : blk.cells = flatE l) => PCalls.viaS (m := m) [b] (args := [srI (tx N) b l.length]) (v := .string (tx (fmtP N l))) (rPrint_y N l hc blk.esz) (ro1 _ rfl) ⟨⟨_, hb, rfl, (fun h => nomatch h), .inl ⟨hk, flatE_scal _⟩⟩, trivial⟩ rfl rfl rfl rfl
  have HW := Parse_s L (fmtP N l) (.inl (fmt_few hc (by omega))) hne (prs_fmtP hc)
  generalize tx (fmtP N l) = F at *
  generalize tx N = nm at *
  clear L hc hf hR
  rcases HT with ⟨i, d, HQ, HR⟩ | ⟨nm', es, hes, HQ, HR⟩
  all_goals
    refine PCallsW.enterJ (t := [srI nm 0 l.length, .string t, undef, undef, undef, undef, undef, undef, undef, undef, undef, undef, undef, undef, undef, undef, undef, undef, undef, undef, undef, undef, undef, undef, undef, undef, undef, undef, undef, undef, undef, undef, undef, undef, undef, undef, undef, undef, undef, undef, undef, undef, undef, undef, undef, undef, undef, undef, undef, undef, undef, undef, undef, undef, undef, undef, undef, undef, undef, undef, undef, undef, undef, undef, undef, undef, undef, undef, undef, undef, undef, undef, undef, undef, undef, undef, undef, undef, undef, undef, undef, undef, undef, undef, undef, undef, undef, undef, undef, undef, undef, undef, undef, undef, undef, undef, undef, undef, undef, undef, undef, undef, undef, undef, undef, undef, undef]) Tryz.func3 rfl (ro1 _ rfl) rfl fun E hE hG => ?_
    repeat' (first
      | with_reducible refine Then.n ?_
      | with_reducible refine Then.r ?_
      | with_reducible refine Then.x ?_
      | with_reducible refine InB.n ?_
      | with_reducible refine InB.r ?_
      | with_reducible refine InB.hit ?_
      | with_reducible refine InB.miss (by decide) ?_
      | ((with_reducible refine AL.on ?_); first
        | (refine AL.gd rfl ?_; first | (refine AL.gskip rfl rfl ?_; (conv => (arg 5; try tactic => exact nrm))) | (refine AL.gs1 rfl rfl (fun hc => ?_) (fun hc => ?_) <;> (try simp only [decide_eq_true_eq, decide_eq_false_iff_not, Bool.not_true, Bool.not_false, Bool.not_eq_true', Bool.not_eq_false', Int.not_lt, Int.not_le, Classical.not_not, ne_eq] at hc) <;> first | (exfalso; first | contradiction | (first | omega | (simp at hc; done)); done) | (conv => (arg 5; try tactic => exact nrm))) | (refine AL.gs0 rfl rfl (fun hc => ?_) (fun hc => ?_) <;> (try simp only [decide_eq_true_eq, decide_eq_false_iff_not, Bool.not_true, Bool.not_false, Bool.not_eq_true', Bool.not_eq_false', Int.not_lt, Int.not_le, Classical.not_not, ne_eq] at hc) <;> first | (exfalso; first | contradiction | (first | omega | (simp at hc; done)); done) | (conv => (arg 5; try tactic => exact nrm))))
        | ((first | ((with_reducible refine AL.k_move ?_); first | (refine AL.q rfl (OQ.move (by conv => lhs; whnf)) ?_)) | ((with_reducible refine AL.k_assign ?_); first | (refine AL.q rfl (OQ.assign (by conv => lhs; whnf)) ?_)) | ((with_reducible refine AL.k_call ?_); first | refine AL.q rfl (OQ.lenStr rfl Tryz.underlying9) ?_) | ((with_reducible refine AL.k_binOp ?_); first | refine AL.q rfl (OQ.gtr rfl rfl) ?_ | refine AL.q rfl (OQ.leq rfl rfl) ?_ | refine AL.q rfl (OQ.neq rfl rfl) ?_ | refine AL.q rfl (OQ.strne rfl rfl) ?_ | refine AL.q rfl (OQ.eql rfl rfl) ?_) | ((with_reducible refine AL.k_extract ?_); first | refine AL.q rfl (OQ.extract rfl rfl) ?_) | ((with_reducible refine AL.k_pick ?_); first | (refine AL.q rfl (OQ.pickT rfl (by with_reducible rfl) (by conv => lhs; whnf)) ?_) | (refine AL.q rfl (OQ.pickF rfl (by with_reducible rfl) (by conv => lhs; whnf)) ?_)) | ((with_reducible refine AL.k_load ?_); first | refine AL.q rfl (OQ.loadN (ty := 24) (n := 2) rfl (by kernel_rfl) (by kernel_rfl) rfl) ?_) | ((with_reducible refine AL.k_unOp ?_); first | refine AL.q rfl (OQ.not rfl) ?_)); (conv => (arg 5; try tactic => exact nrm)))
        | ((first | first | refine AL.pcall (g := 4) rfl (by kernel_rfl) rfl (HA _) ?_ | refine AL.pcall (g := 5) rfl (by kernel_rfl) rfl ((by exact HF _ _ (.blk 0 _ rfl rfl rfl))) ?_ | refine AL.pcall (g := 8) rfl (by kernel_rfl) rfl ((by exact HC _ _ (.blk 0 _ rfl rfl rfl))) ?_ | refine AL.pcall (g := 10) rfl (by kernel_rfl) rfl ((by exact HO _ _ _ rfl rfl)) ?_ | refine AL.pcall (g := 11) rfl (by kernel_rfl) rfl ((by first | exact Same_0' _ | exact Same_q' _ _ (by omega) rfl rfl rfl rfl rfl)) ?_); (conv => (arg 5; try tactic => exact nrm)))
        | ((first | ((with_reducible refine AL.k_call ?_); first | refine AL.acall (g := 7) rfl (by kernel_rfl) rfl ((by exact HY _ _ (.blk 0 _ rfl rfl rfl))) ?_ | refine AL.acallW hG (g := 6) rfl (by kernel_rfl) rfl ((by exact (HP _ _ _ rfl rfl).acalls)) ?_ | refine AL.acallW hG (g := 9) rfl (by kernel_rfl) rfl ((by first | exact HW _ | exact (HQ _).acalls | exact HQ _)) ?_ | refine AL.acall (g := 12) rfl (by kernel_rfl) rfl ((by exact HR _)) ?_ | refine AL.pcall (g := 12) rfl (by kernel_rfl) rfl ((by exact HR _)) ?_) | ((with_reducible refine AL.k_alloc ?_); first | refine AL.w rfl (OW.alloc (ty := 24) (z := [.string ⟨#[]⟩, .slice none 0 0]) (by kernel_rfl) rfl) ?_) | ((with_reducible refine AL.k_store ?_); first | (refine AL.w rfl (OW.store (ty := 24) (n := 2) rfl (by conv => lhs; whnf) rfl rfl (by kernel_rfl) rfl rfl (by decide) rfl (Nat.le_of_ble_eq_true rfl) (by intro r h; cases h)) ?_)) | ((with_reducible refine AL.k_box ?_); first | (refine AL.w rfl (OW.box (by conv => lhs; whnf) (by intro r h; cases h)) ?_))); (conv => (arg 5; try tactic => exact nrm)); (conv => (arg 6; try tactic => exact nrm)))
        | (refine AL.bs rfl (fun hc => ?_) (fun hc => ?_) <;> (fail_if_success (with_reducible exact lit_no hc)) <;> (try simp only [decide_eq_true_eq, decide_eq_false_iff_not, Bool.not_true, Bool.not_false, Bool.not_eq_true', Bool.not_eq_false', Int.not_lt, Int.not_le, Classical.not_not, ne_eq] at hc) <;> first | (exfalso; first | contradiction | (first | omega | (simp at hc; done)); done) | (conv => (arg 5; try tactic => exact nrm)))
        | refine AL.nil ?_)
      | ((with_reducible refine AW.on ?_); first
        | refine AW.seq ?_
        | refine AW.skip ?_
        | refine AW.exit ?_
        | refine AW.ret ?_
        | refine AW.block ?_
        | (refine AW.region (id := 2) ?_; exfalso; first | omega | (simp at hc; done); done)
        | (refine AW.region (id := 4) ?_; exfalso; first | omega | (simp at hc; done); done)
        | (refine AW.region (id := 8) ?_; exfalso; first | omega | (simp at hc; done); done)
        | (refine AW.region (id := 12) ?_; exfalso; first | omega | (simp at hc; done); done)
        | refine AW.region ?_
        | (refine AW.conds rfl (fun hc => ?_) (fun hc => ?_) <;> (try simp only [decide_eq_true_eq, decide_eq_false_iff_not, Bool.not_true, Bool.not_false, Bool.not_eq_true', Bool.not_eq_false', Int.not_lt, Int.not_le, Classical.not_not, ne_eq] at hc) <;> first | (exfalso; first | contradiction | (first | omega | (simp at hc; done)); done) | skip))
      | ((with_reducible refine FinJ.on ?_); first | exact FinJ.ret (.tmp (by conv => lhs; whnf) .nil) (jle_flat rfl) | exact FinJ.end (.tmp (by conv => lhs; whnf) .nil) (jle_flat rfl)))
end
end Go.Proofs.YtmghmmmfdbafoaaGreatDoor
end
