/- MeshCircles: the turn of three points, and on which side of their circle a fourth one lies, are as specified, or the errors; the side is the same for the three in any order. -/
import Derived.Test.YtmohcmghbfhdlaaQc
import Derived.Test.YtmohcmghbfhdlaaRows
import Derived.Test.YtmohcmghbfhdlaaQl
set_option linter.unusedSimpArgs false
set_option linter.unusedVariables false
section
namespace Go.Proofs.Ytmohcmghbfhdlaa
open Go Go.RowKit Go.Ab Go.Me
set_option maxRecDepth 100000
set_option maxHeartbeats 4000000
attribute [local irreducible] OQ OW AL AW AD AF SW
theorem MeshCircles_q (a b c d : Pn) (m : Mem) : PCalls Try.prog 5 [ptV3 a b c, ptV d] m (.bool true) := by
  refine PCalls.any ?_ rfl rfl m
  have hA3 := fun (m : Mem) (k : Nat) (blk : Blk) (h1 : m.at k = some blk) (h2 : blk.cells = flatP [a, b, c]) (h3 : blk.obj = Ob.plain) => ArePoints_q (n := 3) (c := 3) [a, b, c] h1 h2 rfl (by simp) h3
  have hA1 := fun (m : Mem) (k : Nat) (blk : Blk) (h1 : m.at k = some blk) (h2 : blk.cells = flatP [d]) (h3 : blk.obj = Ob.plain) => ArePoints_q (n := 1) (c := 1) [d] h1 h2 rfl (by simp) h3
  have e4 : [a, b, c, d].all okP = ([a, b, c].all okP && okP d) := by simp [Bool.and_assoc]
  cases h3 : [a, b, c].all okP with
  | false =>
    rw [h3] at hA3 e4
    rw [Bool.false_and] at e4
    have hT := fun m => Turn_n (a := a) (b := b) (c := c) (by unfold plE; rw [h3]; rfl) m
    have hI := fun m => InCircle_r (a := a) (b := b) (c := c) (d := d) (by unfold plE; rw [e4]; rfl) m
    clear e4 h3
    refine PCalls.enter (t := [ptV3 a b c, ptV d, undef, undef, undef, undef, undef, undef, undef, undef, undef, undef, undef, undef, undef, undef, undef, undef, undef, undef, undef, undef, undef, undef, undef, undef, undef, undef, undef, undef, undef, undef, undef, undef, undef, undef, undef, undef, undef, undef, undef, undef, undef, undef, undef, undef, undef, undef, undef, undef, undef, undef, undef, undef, undef, undef, undef, undef, undef, undef, undef, undef, undef, undef, undef, undef, undef, undef, undef, undef, undef, undef, undef, undef, undef, undef, undef, undef, undef, undef, undef, undef, undef, undef, undef, undef, undef, undef, undef, undef, undef, undef, undef, undef, undef, undef, undef, undef, undef, undef, undef, undef, undef, undef, undef, undef, undef, undef, undef, undef, undef, undef, undef, undef, undef, undef, undef, undef, undef, undef]) Try.func5 rfl (ro_nil) rfl fun E => ?_
    repeat' (first
      | with_reducible refine Then.n ?_
      | with_reducible refine Then.r ?_
      | with_reducible refine Then.x ?_
      | with_reducible refine InB.n ?_
      | with_reducible refine InB.r ?_
      | with_reducible refine InB.hit ?_
      | with_reducible refine InB.miss (by decide) ?_
      | ((with_reducible refine AL.on ?_); first
        | (refine AL.gd rfl ?_; first | (refine AL.gskip rfl rfl ?_; (conv => (arg 5; try tactic => exact nrm))) | (refine AL.gs1 rfl rfl (fun hc => ?_) (fun hc => ?_) <;> (try replace hc := nc hc) <;> first | (exfalso; first | contradiction | (first | omega | (simp at *; done)); done) | (conv => (arg 5; try tactic => exact nrm))) | (refine AL.gs0 rfl rfl (fun hc => ?_) (fun hc => ?_) <;> (try replace hc := nc hc) <;> first | (exfalso; first | contradiction | (first | omega | (simp at *; done)); done) | (conv => (arg 5; try tactic => exact nrm))))
        | ((first | ((with_reducible refine AL.k_move ?_); first | (refine AL.q rfl (OQ.move wl) ?_)) | ((with_reducible refine AL.k_load ?_); first | refine AL.q rfl (OQ.loadN (ty := 47) (n := 2) rfl kr kr rfl) ?_ | refine AL.q rfl (OQ.loadN (ty := 48) (n := 6) rfl kr kr rfl) ?_) | ((with_reducible refine AL.k_indexAddr ?_); first | refine AL.q rfl (OQ.idxPtr (ty := 48) (n := 2) (l := 3) (g := true) rfl rfl kr (by first | omega | decide) (by first | omega | decide)) ?_) | ((with_reducible refine AL.k_binOp ?_); first | refine AL.q rfl (OQ.eql rfl rfl) ?_ | refine AL.q rfl (OQ.neq rfl rfl) ?_) | ((with_reducible refine AL.k_assign ?_); first | (refine AL.q rfl (OQ.assign wl) ?_)) | ((with_reducible refine AL.k_pick ?_); first | (refine AL.q rfl (OQ.pickT rfl (by with_reducible rfl) wl) ?_) | (refine AL.q rfl (OQ.pickF rfl (by with_reducible rfl) wl) ?_)) | ((with_reducible refine AL.k_extract ?_); first | refine AL.q rfl (OQ.extract rfl rfl) ?_) | ((with_reducible refine AL.k_unOp ?_); first | refine AL.q rfl (OQ.not rfl) ?_)); (conv => (arg 5; try tactic => exact nrm)))
        | ((first | ((with_reducible refine AL.k_call ?_); first | refine AL.pcall (g := 6) rfl kr rfl ((by exact awake_q _)) ?_ | refine AL.pcall (g := 19) rfl kr rfl ((by exact hT _)) ?_ | refine AL.pcall (g := 20) rfl kr rfl ((by exact hI _)) ?_ | refine AL.pcall (g := 21) rfl kr rfl ((by exact hA3 _ _ _ rfl rfl rfl)) ?_ | refine AL.pcall (g := 22) rfl kr rfl (rfl) ?_ | refine AL.pcall (g := 23) rfl kr rfl (rfl) ?_) | ((with_reducible refine AL.k_build ?_); first | refine AL.q rfl (OQ.buildA (ty := 48) (zs := [.int .i64 0, .int .i64 0, .int .i64 0, .int .i64 0, .int .i64 0, .int .i64 0]) (n := 2) (k := 3) (g := true) kr rfl kr rfl rfl rfl) ?_)); (conv => (arg 5; try tactic => exact nrm)))
        | ((first | ((with_reducible refine AL.k_box ?_); first | (refine AL.w rfl (OW.box wl (by intro r h; cases h)) ?_)) | ((with_reducible refine AL.k_buildSlice ?_); first | refine AL.w rfl (OW.buildSl (ty := 22) (zs := [.int .i64 0, .int .i64 0]) (n := 2) (g := true) kr kr rfl rfl rfl (by decide) (by decide) rfl rfl) ?_)); (conv => (arg 5; try tactic => exact nrm)); (conv => (arg 6; try tactic => exact nrm)))
        | (refine AL.bs rfl (fun hc => ?_) (fun hc => ?_) <;> (fail_if_success (with_reducible exact lit_no hc)) <;> (try replace hc := nc hc) <;> first | (exfalso; first | contradiction | (first | omega | (simp at *; done)); done) | (conv => (arg 5; try tactic => exact nrm)))
        | refine AL.nil ?_)
      | ((with_reducible refine AW.on ?_); first
        | refine AW.seq ?_
        | refine AW.skip ?_
        | refine AW.exit ?_
        | refine AW.ret ?_
        | refine AW.block ?_
        | refine AW.region ?_
        | (refine AW.conds rfl (fun hc => ?_) (fun hc => ?_) <;> (try replace hc := nc hc) <;> first | (exfalso; first | contradiction | (first | omega | (simp at *; done)); done) | skip))
      | ((with_reducible refine FinP.on ?_); (first | refine FinP.ret (.tmp wl .nil) ?_ rfl | refine FinP.end (.tmp wl .nil) ?_ rfl); (try simp only [pack, List.drop, List.take]); all_goals (rfl)))
  | true =>
    have hall := List.all_eq_true.1 h3
    have ha := okP_ok (hall a (by simp))
    have hb := okP_ok (hall b (by simp))
    have hc := okP_ok (hall c (by simp))
    rw [h3] at hA3 e4
    rw [Bool.true_and] at e4
    have hT := fun m => Turn_y (a := a) (b := b) (c := c) ha hb hc (by unfold plE; rw [h3]; rfl) m
    have hrT := fun m => rTurn_q ha hb hc m
    cases hd : okP d with
    | false =>
      have e1 : [d].all okP = false := by simp [hd]
      rw [e1] at hA1
      have hI := fun m => InCircle_r (a := a) (b := b) (c := c) (d := d) (by unfold plE; rw [e4, hd]; rfl) m
      have hsb := sgn_bd (cr a b c)
      clear e4 h3 hall e1 hd
      generalize sgn (cr a b c) = s0 at *
      refine PCalls.enter (t := [ptV3 a b c, ptV d, undef, undef, undef, undef, undef, undef, undef, undef, undef, undef, undef, undef, undef, undef, undef, undef, undef, undef, undef, undef, undef, undef, undef, undef, undef, undef, undef, undef, undef, undef, undef, undef, undef, undef, undef, undef, undef, undef, undef, undef, undef, undef, undef, undef, undef, undef, undef, undef, undef, undef, undef, undef, undef, undef, undef, undef, undef, undef, undef, undef, undef, undef, undef, undef, undef, undef, undef, undef, undef, undef, undef, undef, undef, undef, undef, undef, undef, undef, undef, undef, undef, undef, undef, undef, undef, undef, undef, undef, undef, undef, undef, undef, undef, undef, undef, undef, undef, undef, undef, undef, undef, undef, undef, undef, undef, undef, undef, undef, undef, undef, undef, undef, undef, undef, undef, undef, undef, undef]) Try.func5 rfl (ro_nil) rfl fun E => ?_
      repeat' (first
        | with_reducible refine Then.n ?_
        | with_reducible refine Then.r ?_
        | with_reducible refine Then.x ?_
        | with_reducible refine InB.n ?_
        | with_reducible refine InB.r ?_
        | with_reducible refine InB.hit ?_
        | with_reducible refine InB.miss (by decide) ?_
        | ((with_reducible refine AL.on ?_); first
          | (refine AL.gd rfl ?_; first | (refine AL.gskip rfl rfl ?_; (conv => (arg 5; try tactic => exact nrm))) | (refine AL.gs1 rfl rfl (fun hc => ?_) (fun hc => ?_) <;> (try replace hc := nc hc) <;> first | (exfalso; first | contradiction | (first | omega | (simp at *; done)); done) | (conv => (arg 5; try tactic => exact nrm))) | (refine AL.gs0 rfl rfl (fun hc => ?_) (fun hc => ?_) <;> (try replace hc := nc hc) <;> first | (exfalso; first | contradiction | (first | omega | (simp at *; done)); done) | (conv => (arg 5; try tactic => exact nrm))))
          | ((first | ((with_reducible refine AL.k_move ?_); first | (refine AL.q rfl (OQ.move wl) ?_)) | ((with_reducible refine AL.k_load ?_); first | refine AL.q rfl (OQ.loadN (ty := 47) (n := 2) rfl kr kr rfl) ?_ | refine AL.q rfl (OQ.loadN (ty := 48) (n := 6) rfl kr kr rfl) ?_) | ((with_reducible refine AL.k_indexAddr ?_); first | refine AL.q rfl (OQ.idxPtr (ty := 48) (n := 2) (l := 3) (g := true) rfl rfl kr (by first | omega | decide) (by first | omega | decide)) ?_) | ((with_reducible refine AL.k_binOp ?_); first | refine AL.q rfl (OQ.eql rfl rfl) ?_ | refine AL.q rfl (OQ.neq rfl rfl) ?_) | ((with_reducible refine AL.k_assign ?_); first | (refine AL.q rfl (OQ.assign wl) ?_)) | ((with_reducible refine AL.k_pick ?_); first | (refine AL.q rfl (OQ.pickT rfl (by with_reducible rfl) wl) ?_) | (refine AL.q rfl (OQ.pickF rfl (by with_reducible rfl) wl) ?_)) | ((with_reducible refine AL.k_extract ?_); first | refine AL.q rfl (OQ.extract rfl rfl) ?_) | ((with_reducible refine AL.k_unOp ?_); first | refine AL.q rfl (OQ.not rfl) ?_)); (conv => (arg 5; try tactic => exact nrm)))
          | ((first | ((with_reducible refine AL.k_call ?_); first | refine AL.pcall (g := 6) rfl kr rfl ((by exact awake_q _)) ?_ | refine AL.pcall (g := 19) rfl kr rfl ((by exact hT _)) ?_ | refine AL.pcall (g := 20) rfl kr rfl ((by exact hI _)) ?_ | refine AL.pcall (g := 21) rfl kr rfl ((by first | exact hA3 _ _ _ rfl rfl rfl | exact hA1 _ _ _ rfl rfl rfl)) ?_ | refine AL.pcall (g := 22) rfl kr rfl ((by exact hrT _)) ?_ | refine AL.pcall (g := 23) rfl kr rfl (rfl) ?_) | ((with_reducible refine AL.k_build ?_); first | refine AL.q rfl (OQ.buildA (ty := 48) (zs := [.int .i64 0, .int .i64 0, .int .i64 0, .int .i64 0, .int .i64 0, .int .i64 0]) (n := 2) (k := 3) (g := true) kr rfl kr rfl rfl rfl) ?_)); (conv => (arg 5; try tactic => exact nrm)))
          | ((first | ((with_reducible refine AL.k_box ?_); first | (refine AL.w rfl (OW.box wl (by intro r h; cases h)) ?_)) | ((with_reducible refine AL.k_buildSlice ?_); first | refine AL.w rfl (OW.buildSl (ty := 22) (zs := [.int .i64 0, .int .i64 0]) (n := 2) (g := true) kr kr rfl rfl rfl (by decide) (by decide) rfl rfl) ?_)); (conv => (arg 5; try tactic => exact nrm)); (conv => (arg 6; try tactic => exact nrm)))
          | (refine AL.bs rfl (fun hc => ?_) (fun hc => ?_) <;> (fail_if_success (with_reducible exact lit_no hc)) <;> (try replace hc := nc hc) <;> first | (exfalso; first | contradiction | (first | omega | (simp at *; done)); done) | (conv => (arg 5; try tactic => exact nrm)))
          | refine AL.nil ?_)
        | ((with_reducible refine AW.on ?_); first
          | refine AW.seq ?_
          | refine AW.skip ?_
          | refine AW.exit ?_
          | refine AW.ret ?_
          | refine AW.block ?_
          | refine AW.region ?_
          | (refine AW.conds rfl (fun hc => ?_) (fun hc => ?_) <;> (try replace hc := nc hc) <;> first | (exfalso; first | contradiction | (first | omega | (simp at *; done)); done) | skip))
        | ((with_reducible refine FinP.on ?_); (first | refine FinP.ret (.tmp wl .nil) ?_ rfl | refine FinP.end (.tmp wl .nil) ?_ rfl); (try simp only [pack, List.drop, List.take]); all_goals (rfl)))
    | true =>
      have hdo := okP_ok hd
      have e1 : [d].all okP = true := by simp [hd]
      rw [e1] at hA1
      have hp4 : plE [a, b, c, d] = 0 := by unfold plE; rw [e4, hd]; rfl
      by_cases h0 : sgn (cr a b c) = 0
      · have hI := fun m => InCircle_f (a := a) (b := b) (c := c) (d := d) ha hb hc hp4 h0 m
        rw [h0] at hT hrT
        clear e4 h3 hall e1 hd h0 hp4
        refine PCalls.enter (t := [ptV3 a b c, ptV d, undef, undef, undef, undef, undef, undef, undef, undef, undef, undef, undef, undef, undef, undef, undef, undef, undef, undef, undef, undef, undef, undef, undef, undef, undef, undef, undef, undef, undef, undef, undef, undef, undef, undef, undef, undef, undef, undef, undef, undef, undef, undef, undef, undef, undef, undef, undef, undef, undef, undef, undef, undef, undef, undef, undef, undef, undef, undef, undef, undef, undef, undef, undef, undef, undef, undef, undef, undef, undef, undef, undef, undef, undef, undef, undef, undef, undef, undef, undef, undef, undef, undef, undef, undef, undef, undef, undef, undef, undef, undef, undef, undef, undef, undef, undef, undef, undef, undef, undef, undef, undef, undef, undef, undef, undef, undef, undef, undef, undef, undef, undef, undef, undef, undef, undef, undef, undef, undef]) Try.func5 rfl (ro_nil) rfl fun E => ?_
        repeat' (first
          | with_reducible refine Then.n ?_
          | with_reducible refine Then.r ?_
          | with_reducible refine Then.x ?_
          | with_reducible refine InB.n ?_
          | with_reducible refine InB.r ?_
          | with_reducible refine InB.hit ?_
          | with_reducible refine InB.miss (by decide) ?_
          | ((with_reducible refine AL.on ?_); first
            | (refine AL.gd rfl ?_; first | (refine AL.gskip rfl rfl ?_; (conv => (arg 5; try tactic => exact nrm))) | (refine AL.gs1 rfl rfl (fun hc => ?_) (fun hc => ?_) <;> (try replace hc := nc hc) <;> first | (exfalso; first | contradiction | (first | omega | (simp at *; done)); done) | (conv => (arg 5; try tactic => exact nrm))) | (refine AL.gs0 rfl rfl (fun hc => ?_) (fun hc => ?_) <;> (try replace hc := nc hc) <;> first | (exfalso; first | contradiction | (first | omega | (simp at *; done)); done) | (conv => (arg 5; try tactic => exact nrm))))
            | ((first | ((with_reducible refine AL.k_move ?_); first | (refine AL.q rfl (OQ.move wl) ?_)) | ((with_reducible refine AL.k_load ?_); first | refine AL.q rfl (OQ.loadN (ty := 47) (n := 2) rfl kr kr rfl) ?_ | refine AL.q rfl (OQ.loadN (ty := 48) (n := 6) rfl kr kr rfl) ?_) | ((with_reducible refine AL.k_indexAddr ?_); first | refine AL.q rfl (OQ.idxPtr (ty := 48) (n := 2) (l := 3) (g := true) rfl rfl kr (by first | omega | decide) (by first | omega | decide)) ?_) | ((with_reducible refine AL.k_binOp ?_); first | refine AL.q rfl (OQ.eql rfl rfl) ?_ | refine AL.q rfl (OQ.neq rfl rfl) ?_) | ((with_reducible refine AL.k_assign ?_); first | (refine AL.q rfl (OQ.assign wl) ?_)) | ((with_reducible refine AL.k_pick ?_); first | (refine AL.q rfl (OQ.pickT rfl (by with_reducible rfl) wl) ?_) | (refine AL.q rfl (OQ.pickF rfl (by with_reducible rfl) wl) ?_)) | ((with_reducible refine AL.k_extract ?_); first | refine AL.q rfl (OQ.extract rfl rfl) ?_) | ((with_reducible refine AL.k_unOp ?_); first | refine AL.q rfl (OQ.not rfl) ?_)); (conv => (arg 5; try tactic => exact nrm)))
            | ((first | ((with_reducible refine AL.k_call ?_); first | refine AL.pcall (g := 6) rfl kr rfl ((by exact awake_q _)) ?_ | refine AL.pcall (g := 19) rfl kr rfl ((by exact hT _)) ?_ | refine AL.pcall (g := 20) rfl kr rfl ((by exact hI _)) ?_ | refine AL.pcall (g := 21) rfl kr rfl ((by first | exact hA3 _ _ _ rfl rfl rfl | exact hA1 _ _ _ rfl rfl rfl)) ?_ | refine AL.pcall (g := 22) rfl kr rfl ((by exact hrT _)) ?_ | refine AL.pcall (g := 23) rfl kr rfl (rfl) ?_) | ((with_reducible refine AL.k_build ?_); first | refine AL.q rfl (OQ.buildA (ty := 48) (zs := [.int .i64 0, .int .i64 0, .int .i64 0, .int .i64 0, .int .i64 0, .int .i64 0]) (n := 2) (k := 3) (g := true) kr rfl kr rfl rfl rfl) ?_)); (conv => (arg 5; try tactic => exact nrm)))
            | ((first | ((with_reducible refine AL.k_box ?_); first | (refine AL.w rfl (OW.box wl (by intro r h; cases h)) ?_)) | ((with_reducible refine AL.k_buildSlice ?_); first | refine AL.w rfl (OW.buildSl (ty := 22) (zs := [.int .i64 0, .int .i64 0]) (n := 2) (g := true) kr kr rfl rfl rfl (by decide) (by decide) rfl rfl) ?_)); (conv => (arg 5; try tactic => exact nrm)); (conv => (arg 6; try tactic => exact nrm)))
            | (refine AL.bs rfl (fun hc => ?_) (fun hc => ?_) <;> (fail_if_success (with_reducible exact lit_no hc)) <;> (try replace hc := nc hc) <;> first | (exfalso; first | contradiction | (first | omega | (simp at *; done)); done) | (conv => (arg 5; try tactic => exact nrm)))
            | refine AL.nil ?_)
          | ((with_reducible refine AW.on ?_); first
            | refine AW.seq ?_
            | refine AW.skip ?_
            | refine AW.exit ?_
            | refine AW.ret ?_
            | refine AW.block ?_
            | refine AW.region ?_
            | (refine AW.conds rfl (fun hc => ?_) (fun hc => ?_) <;> (try replace hc := nc hc) <;> first | (exfalso; first | contradiction | (first | omega | (simp at *; done)); done) | skip))
          | ((with_reducible refine FinP.on ?_); (first | refine FinP.ret (.tmp wl .nil) ?_ rfl | refine FinP.end (.tmp wl .nil) ?_ rfl); (try simp only [pack, List.drop, List.take]); all_goals (rfl)))
      · have hp4' : plE [b, a, c, d] = 0 := by
          have : [b, a, c, d].all okP = true := List.all_eq_true.2 fun x hx => by
            simp only [List.mem_cons, List.not_mem_nil, or_false] at hx
            rcases hx with rfl | rfl | rfl | rfl
            · exact hall _ (by simp)
            · exact hall _ (by simp)
            · exact hall _ (by simp)
            · exact hd
          unfold plE
          rw [this]
          rfl
        have h0' : sgn (cr b a c) ≠ 0 := by
          have : cr b a c = -cr a b c := by unfold cr; grind
          rw [this, sgn_neg]
          omega
        have hI := fun m => InCircle_y ha hb hc hdo hp4 h0 m
        have hI2 := fun m => InCircle_y hb ha hc hdo hp4' h0' m
        rw [inC_swap] at hI2
        have hrI := fun m => rInCircle_q ha hb hc hdo m
        have hsb := sgn_bd (cr a b c)
        clear e4 h3 hall e1 hd hp4 hp4' h0'
        generalize sgn (cr a b c) = s0 at *
        generalize inC a b c d = i0 at *
        refine PCalls.enter (t := [ptV3 a b c, ptV d, undef, undef, undef, undef, undef, undef, undef, undef, undef, undef, undef, undef, undef, undef, undef, undef, undef, undef, undef, undef, undef, undef, undef, undef, undef, undef, undef, undef, undef, undef, undef, undef, undef, undef, undef, undef, undef, undef, undef, undef, undef, undef, undef, undef, undef, undef, undef, undef, undef, undef, undef, undef, undef, undef, undef, undef, undef, undef, undef, undef, undef, undef, undef, undef, undef, undef, undef, undef, undef, undef, undef, undef, undef, undef, undef, undef, undef, undef, undef, undef, undef, undef, undef, undef, undef, undef, undef, undef, undef, undef, undef, undef, undef, undef, undef, undef, undef, undef, undef, undef, undef, undef, undef, undef, undef, undef, undef, undef, undef, undef, undef, undef, undef, undef, undef, undef, undef, undef]) Try.func5 rfl (ro_nil) rfl fun E => ?_
        repeat' (first
          | with_reducible refine Then.n ?_
          | with_reducible refine Then.r ?_
          | with_reducible refine Then.x ?_
          | with_reducible refine InB.n ?_
          | with_reducible refine InB.r ?_
          | with_reducible refine InB.hit ?_
          | with_reducible refine InB.miss (by decide) ?_
          | ((with_reducible refine AL.on ?_); first
            | (refine AL.gd rfl ?_; first | (refine AL.gskip rfl rfl ?_; (conv => (arg 5; try tactic => exact nrm))) | (refine AL.gs1 rfl rfl (fun hc => ?_) (fun hc => ?_) <;> (try replace hc := nc hc) <;> first | (exfalso; first | contradiction | (first | omega | (simp at *; done)); done) | (conv => (arg 5; try tactic => exact nrm))) | (refine AL.gs0 rfl rfl (fun hc => ?_) (fun hc => ?_) <;> (try replace hc := nc hc) <;> first | (exfalso; first | contradiction | (first | omega | (simp at *; done)); done) | (conv => (arg 5; try tactic => exact nrm))))
            | ((first | ((with_reducible refine AL.k_move ?_); first | (refine AL.q rfl (OQ.move wl) ?_)) | ((with_reducible refine AL.k_load ?_); first | refine AL.q rfl (OQ.loadN (ty := 47) (n := 2) rfl kr kr rfl) ?_ | refine AL.q rfl (OQ.loadN (ty := 48) (n := 6) rfl kr kr rfl) ?_) | ((with_reducible refine AL.k_indexAddr ?_); first | refine AL.q rfl (OQ.idxPtr (ty := 48) (n := 2) (l := 3) (g := true) rfl rfl kr (by first | omega | decide) (by first | omega | decide)) ?_) | ((with_reducible refine AL.k_binOp ?_); first | refine AL.q rfl (OQ.eql rfl rfl) ?_ | refine AL.q rfl (OQ.neq rfl rfl) ?_) | ((with_reducible refine AL.k_assign ?_); first | (refine AL.q rfl (OQ.assign wl) ?_)) | ((with_reducible refine AL.k_pick ?_); first | (refine AL.q rfl (OQ.pickT rfl (by with_reducible rfl) wl) ?_) | (refine AL.q rfl (OQ.pickF rfl (by with_reducible rfl) wl) ?_)) | ((with_reducible refine AL.k_extract ?_); first | refine AL.q rfl (OQ.extract rfl rfl) ?_) | ((with_reducible refine AL.k_unOp ?_); first | refine AL.q rfl (OQ.not rfl) ?_)); (conv => (arg 5; try tactic => exact nrm)))
            | ((first | ((with_reducible refine AL.k_call ?_); first | refine AL.pcall (g := 6) rfl kr rfl ((by exact awake_q _)) ?_ | refine AL.pcall (g := 19) rfl kr rfl ((by exact hT _)) ?_ | refine AL.pcall (g := 20) rfl kr rfl ((by first | exact hI _ | exact hI2 _)) ?_ | refine AL.pcall (g := 21) rfl kr rfl ((by first | exact hA3 _ _ _ rfl rfl rfl | exact hA1 _ _ _ rfl rfl rfl)) ?_ | refine AL.pcall (g := 22) rfl kr rfl ((by exact hrT _)) ?_ | refine AL.pcall (g := 23) rfl kr rfl ((by exact hrI _)) ?_) | ((with_reducible refine AL.k_build ?_); first | refine AL.q rfl (OQ.buildA (ty := 48) (zs := [.int .i64 0, .int .i64 0, .int .i64 0, .int .i64 0, .int .i64 0, .int .i64 0]) (n := 2) (k := 3) (g := true) kr rfl kr rfl rfl rfl) ?_)); (conv => (arg 5; try tactic => exact nrm)))
            | ((first | ((with_reducible refine AL.k_box ?_); first | (refine AL.w rfl (OW.box wl (by intro r h; cases h)) ?_)) | ((with_reducible refine AL.k_buildSlice ?_); first | refine AL.w rfl (OW.buildSl (ty := 22) (zs := [.int .i64 0, .int .i64 0]) (n := 2) (g := true) kr kr rfl rfl rfl (by decide) (by decide) rfl rfl) ?_)); (conv => (arg 5; try tactic => exact nrm)); (conv => (arg 6; try tactic => exact nrm)))
            | (refine AL.bs rfl (fun hc => ?_) (fun hc => ?_) <;> (fail_if_success (with_reducible exact lit_no hc)) <;> (try replace hc := nc hc) <;> first | (exfalso; first | contradiction | (first | omega | (simp at *; done)); done) | (conv => (arg 5; try tactic => exact nrm)))
            | refine AL.nil ?_)
          | ((with_reducible refine AW.on ?_); first
            | refine AW.seq ?_
            | refine AW.skip ?_
            | refine AW.exit ?_
            | refine AW.ret ?_
            | refine AW.block ?_
            | refine AW.region ?_
            | (refine AW.conds rfl (fun hc => ?_) (fun hc => ?_) <;> (try replace hc := nc hc) <;> first | (exfalso; first | contradiction | (first | omega | (simp at *; done)); done) | skip))
          | ((with_reducible refine FinP.on ?_); (first | refine FinP.ret (.tmp wl .nil) ?_ rfl | refine FinP.end (.tmp wl .nil) ?_ rfl); (try simp only [pack, List.drop, List.take]); all_goals (rfl)))
end Go.Proofs.Ytmohcmghbfhdlaa
end

section
namespace Go.Proofs.Ytmohcmghbfhdlaa.MeshCircles
open Go.ChangeShapes Go.WideShapes Go.ChangeAt Go Go.RowKit Go.Ab Go.Ls Go.Me Go.Proofs.Ytmohcmghbfhdlaa
set_option maxRecDepth 100000
theorem cells_P3 : Try.prog.cellsOf 48 = 6 := by kernel_rfl
theorem ints_P3 : intsT Try.prog 4 48 = true := by kernel_rfl
set_option maxRecDepth 100000 in
theorem open_P3 {H : Type} {enc : TypeId × Value → H} {w : World} {base : Nat} {spare : Nat → Bool} {held : Bool} {r : Reach} {b0 : Nat} {v : Value} {d : DataW H} {p : List MemPlace} (hv : Value.okWide Try.prog w r b0 48 v) (h : DataW.Trod enc Try.prog w base spare held 48 v d p) :
    ∃ x0 x1 x2 x3 x4 x5 : Int, v = .agg #[.int .i64 x0, .int .i64 x1, .int .i64 x2, .int .i64 x3, .int .i64 x4, .int .i64 x5] ∧ (-9223372036854775808 ≤ x0 ∧ x0 ≤ 9223372036854775807) ∧ (-9223372036854775808 ≤ x1 ∧ x1 ≤ 9223372036854775807) ∧ (-9223372036854775808 ≤ x2 ∧ x2 ≤ 9223372036854775807) ∧ (-9223372036854775808 ≤ x3 ∧ x3 ≤ 9223372036854775807) ∧ (-9223372036854775808 ≤ x4 ∧ x4 ≤ 9223372036854775807) ∧ (-9223372036854775808 ≤ x5 ∧ x5 ≤ 9223372036854775807) := by
  obtain ⟨cs, rfl, hsz⟩ := okWide_array Try.underlying48 hv
  obtain ⟨l⟩ := cs
  obtain ⟨fuel, hf⟩ := h
  have hi := ints_of 4 _ _ _ _ ints_P3 hf
  match l, hsz.trans cells_P3, hi with
  | [c0, c1, c2, c3, c4, c5], _, hi =>
    obtain ⟨x0, rfl, hx0⟩ := hi c0 (by simp [Value.cells])
    obtain ⟨x1, rfl, hx1⟩ := hi c1 (by simp [Value.cells])
    obtain ⟨x2, rfl, hx2⟩ := hi c2 (by simp [Value.cells])
    obtain ⟨x3, rfl, hx3⟩ := hi c3 (by simp [Value.cells])
    obtain ⟨x4, rfl, hx4⟩ := hi c4 (by simp [Value.cells])
    obtain ⟨x5, rfl, hx5⟩ := hi c5 (by simp [Value.cells])
    exact ⟨x0, x1, x2, x3, x4, x5, rfl, wf_bd hx0, wf_bd hx1, wf_bd hx2, wf_bd hx3, wf_bd hx4, wf_bd hx5⟩
theorem cells_PT : Try.prog.cellsOf 47 = 2 := by kernel_rfl
theorem ints_PT : intsT Try.prog 4 47 = true := by kernel_rfl
set_option maxRecDepth 100000 in
theorem open_PT {H : Type} {enc : TypeId × Value → H} {w : World} {base : Nat} {spare : Nat → Bool} {held : Bool} {r : Reach} {b0 : Nat} {v : Value} {d : DataW H} {p : List MemPlace} (hv : Value.okWide Try.prog w r b0 47 v) (h : DataW.Trod enc Try.prog w base spare held 47 v d p) :
    ∃ x0 x1 : Int, v = .agg #[.int .i64 x0, .int .i64 x1] ∧ (-9223372036854775808 ≤ x0 ∧ x0 ≤ 9223372036854775807) ∧ (-9223372036854775808 ≤ x1 ∧ x1 ≤ 9223372036854775807) := by
  obtain ⟨cs, rfl, hsz⟩ := okWide_struct Try.underlying47 hv
  obtain ⟨l⟩ := cs
  obtain ⟨fuel, hf⟩ := h
  have hi := ints_of 4 _ _ _ _ ints_PT hf
  match l, hsz.trans cells_PT, hi with
  | [c0, c1], _, hi =>
    obtain ⟨x0, rfl, hx0⟩ := hi c0 (by simp [Value.cells])
    obtain ⟨x1, rfl, hx1⟩ := hi c1 (by simp [Value.cells])
    exact ⟨x0, x1, rfl, wf_bd hx0, wf_bd hx1⟩
theorem walk {W : World} (x0 x1 x2 x3 x4 x5 y0 y1 : Int) : Calls Try.prog 5 #[.agg #[.int .i64 x0, .int .i64 x1, .int .i64 x2, .int .i64 x3, .int .i64 x4, .int .i64 x5], .agg #[.int .i64 y0, .int .i64 y1]] W fun e w' => e = .returned (.bool true) ∧ Below W.heap.size W w' := by
  refine glueL (args := [ptV3 ⟨x0, x1⟩ ⟨x2, x3⟩ ⟨x4, x5⟩, ptV ⟨y0, y1⟩]) [] (fun x hx => by simp at hx) ?_ (MeshCircles_q ⟨x0, x1⟩ ⟨x2, x3⟩ ⟨x4, x5⟩ ⟨y0, y1⟩ _)
  refine .tuple rfl fun i h h' => ?_
  match i, h with
  | 0, _ => exact .flat rfl
  | 1, _ => exact .flat rfl
  | i + 2, h => exact absurd h (by simp)

set_option maxRecDepth 100000 in
theorem lifted (os : Os) (started : os.Started) (H : Type) (enc : TypeId × Value → H) :
    ReturnsInHanded {} Try.checked os 5 .any (Rows.meshCirclesSpec.pre6 enc Try.prog Try.f5 Rows.meshCirclesRow.domain false) (Rows.meshCirclesSpec.post enc Try.prog Try.f5 false true false false) := by
  refine returnsInHanded_of_change (C := Try.checked) own started (by kernel_rfl) Try.func5
    (ChangeSpec.witness6 (enc := enc) (C := Try.checked) false ⟨#[], #[.agg #[.int .i64 0, .int .i64 0, .int .i64 0, .int .i64 0, .int .i64 0, .int .i64 0], .agg #[.int .i64 0, .int .i64 0]], []⟩ 8 (by kernel_rfl) (by kernel_rfl) (by kernel_rfl) (by kernel_rfl)) ?_
  intro W base args ds gs before hval0 hW hcnd _
  have hval : ∀ (j : Nat) t v, Try.f5.params[j]? = some t → args[j]? = some v → Value.okWide Try.prog W .any base t v := hval0
  have hW' := hW
  obtain ⟨p, q, hA0, hV, rfl, hfz, hnd⟩ := hW
  have hA : DataW.TrodAll enc Try.prog W 0 (fun _ => true) true Try.f5.params.toList args.toList ds p := hA0
  rw [Try.params5] at hA hval
  obtain ⟨v0, vs0, d0, ds0, p0, q0, hargs, rfl, rfl, h0, r0⟩ := trodAll_cons hA
  obtain ⟨v1, vs1, d1, ds1, p1, q1, rfl, rfl, rfl, h1, r1⟩ := trodAll_cons r0
  obtain ⟨rfl, rfl, rfl⟩ := trodAll_nil r1
  obtain rfl : args = #[v0, v1] := by cases args; simp_all
  obtain ⟨rfl, rfl⟩ := trodVars_none hV
  clear hA0 hval0
  have hlt := hW'.lt
  have g0 := h0
  have g1 := h1
  obtain ⟨x0_0, x1_0, x2_0, x3_0, x4_0, x5_0, rfl, hx0_0, hx1_0, hx2_0, hx3_0, hx4_0, hx5_0⟩ := open_P3 (hval 0 48 v0 rfl rfl) h0
  obtain ⟨x0_1, x1_1, rfl, hx0_1, hx1_1⟩ := open_PT (hval 1 47 v1 rfl rfl) h1
  simp only [List.append_nil] at hW' hlt ⊢
  refine (walk x0_0 x1_0 x2_0 x3_0 x4_0 x5_0 x0_1 x1_1).mono fun e W' ⟨he, hb⟩ => ?_
  subst he
  have stay : ∀ (t : TypeId) v d ps (sp : Nat → Bool), Try.prog.readableRec t = true → t < Try.prog.types.size → DataW.Trod enc Try.prog W 0 (fun _ => true) true t v d ps → (∀ x ∈ ps, x.block < W.heap.size) → (∀ x ∈ ps, sp x.block = true) → DataW.Trod enc Try.prog W' 0 sp true t v d ps :=
    fun t v d ps sp hr ht h hx hs => Go.WideElems.Trod_stays laid hr ht h (fun x hxp => hb.same (hx x hxp)) hs
  exact ⟨_, rfl, post_below (pa := p0 ++ (p1 ++ [])) (pv := []) hW' (fun _ _ _ => trodAll_mk1 (shut_bool Try.underlying4 true)) (fun sp hs => (trodAll_cons_mk (stay 48 _ _ _ sp (by kernel_rfl) (of_decide_eq_true (by kernel_rfl)) g0 (fun x hx => hlt x (by simp [hx])) (fun x hx => hs x (by simp [hx]))) (trodAll_cons_mk (stay 47 _ _ _ sp (by kernel_rfl) (of_decide_eq_true (by kernel_rfl)) g1 (fun x hx => hlt x (by simp [hx])) (fun x hx => hs x (by simp [hx]))) (trodAll_mk0)))) (fun _ _ => rfl) (by simp)
    hb (ok_one (by kernel_rfl) rfl (okWide_bool_mk Try.underlying4 true))⟩

theorem over : Rows.meshCirclesRow.holds Try.pinned (OpenSpec.ofChange Rows.meshCirclesSpec) :=
  OpenClaim.holds_of_wide 5 Try.f5 rfl rfl rfl rfl rfl rfl rfl ⟨rfl, rfl, rfl, rfl, rfl⟩ rfl rfl rfl rfl rfl (by kernel_rfl) Try.func5 (by kernel_rfl)
    (of_decide_eq_true (by kernel_rfl)) (by unfold Func.isWrapper; first | (rw [if_pos (by decide +kernel)]; kernel_rfl) | (rw [if_neg (by decide +kernel)]; exact ⟨rfl, rfl⟩))
    (fun os started H enc _ => lifted os started H enc)

theorem proved : Rows.MeshCirclesSaid := over
#print axioms proved
end Go.Proofs.Ytmohcmghbfhdlaa.MeshCircles
end
