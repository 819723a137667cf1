/- Chapter 6: Hull (the program's), for all points. -/
import Derived.Test.YtmohcmghbfhdlaaQc
import Derived.Test.YtmohcmghbfhdlaaQg
section
set_option linter.unusedSimpArgs false
set_option linter.unusedVariables false
section
namespace Go.Me
open Go.Ab
theorem cp_ok {l : List Pn} (h : cpB l = 0) : l.length ≤ 40 ∧ (∀ k, k < l.length → (pt l k).Ok) ∧ Apart l := by
  have h40 : ¬ 40 < l.length := fun h2 => by
    unfold cpB at h
    rw [if_pos h2] at h
    cases h
  have hN : ∀ n, cpN l n = -1 → ∀ j, j < n → ptE l j = 0 := by
    intro n
    induction n with
    | zero => intro _ j hj; omega
    | succ n ih =>
      intro h1 j hj
      unfold cpN at h1
      by_cases h2 : cpN l n = -1
      · rw [if_neg (fun h3 => h3 h2)] at h1
        rcases Nat.lt_or_eq_of_le (Nat.le_of_lt_succ hj) with h3 | rfl
        · exact ih h2 j h3
        · apply Classical.byContradiction
          intro h4
          rw [if_pos h4] at h1
          omega
      · rw [if_pos h2] at h1
        exact absurd h1 h2
  have hc : cpN l l.length = -1 := by
    unfold cpB at h
    rw [if_neg h40] at h
    apply Classical.byContradiction
    intro h1
    rw [if_neg h1] at h
    have h2 : ∀ n, cpN l n ≠ -1 → 0 ≤ cpN l n ∧ (cpN l n).toNat < n ∧ ptE l (cpN l n).toNat ≠ 0 := by
      intro n
      induction n with
      | zero => intro h; exact absurd rfl h
      | succ n ih =>
        intro h3
        unfold cpN at h3 ⊢
        by_cases h4 : cpN l n ≠ -1
        · have := ih h4
          rw [if_pos h4]
          exact ⟨this.1, by omega, this.2.2⟩
        · rw [if_neg h4] at h3 ⊢
          by_cases h5 : ptE l n ≠ 0
          · rw [if_pos h5]
            exact ⟨by omega, by omega, by simpa using h5⟩
          · rw [if_neg h5] at h3
            exact absurd rfl h3
    exact (h2 l.length h1).2.2 h
  have hp := hN l.length hc
  have hok : ∀ k, k < l.length → okP (pt l k) = true ∧ idxP l (pt l k) k = -1 := fun k hk => by
    have := hp k hk
    unfold ptE at this
    cases ho : okP (pt l k) with
    | false => rw [ho, if_pos rfl] at this; cases this
    | true =>
      rw [ho, if_neg (by decide)] at this
      refine ⟨rfl, ?_⟩
      apply Classical.byContradiction
      intro h1
      rw [if_neg h1] at this
      cases this
  have hne : ∀ i j, i < j → j < l.length → pt l i ≠ pt l j := fun i j hij hj e => by
    have h1 := (hok j hj).2
    have h2 : ∀ n, i < n → idxP l (pt l j) n ≠ -1 := by
      intro n
      induction n with
      | zero => intro h; omega
      | succ n ih =>
        intro hn h3
        unfold idxP at h3
        by_cases h4 : idxP l (pt l j) n ≠ -1
        · rw [if_pos h4] at h3
          exact h4 h3
        · rw [if_neg h4] at h3
          rcases Nat.lt_or_eq_of_le (Nat.le_of_lt_succ hn) with h5 | rfl
          · exact h4 (ih h5)
          · rw [if_pos (by rw [e])] at h3
            omega
    exact h2 j hij h1
  refine ⟨by omega, fun k hk => okP_ok (hok k hk).1, fun i j hi hj e => ?_⟩
  rcases Nat.lt_trichotomy i j with h1 | h1 | h1
  · exact absurd e (hne i j h1 hj)
  · exact h1
  · exact absurd e.symm (hne j i h1 hi)
end Go.Me
namespace Go.Proofs.Ytmohcmghbfhdlaa
open Go Go.RowKit Go.Ab Go.Me
set_option maxRecDepth 100000
set_option maxHeartbeats 4000000
attribute [local irreducible] OQ OW AL AW AD AF SW
theorem sortI_0 {m : Mem} {fv : Value} : PCalls Try.prog 74 [.slice none 0 0, fv] m (.tuple #[]) :=
  PCalls.sort0 (σ := Try.laysF6_ren) { Try.laysF6 with }
theorem Reverse_0 (m : Mem) : PCalls Try.prog 54 [.slice none 0 0] m (.tuple #[]) := by
  refine PCalls.any ?_ rfl rfl m
  refine PCalls.enter (t := [.slice none 0 0, undef, undef, undef, undef, undef, undef, undef, undef, undef, undef, undef, undef, undef, undef, undef, undef, undef, undef, undef, undef, undef, undef, undef, undef, undef, undef, undef]) Try.func54 rfl (ro_nil) rfl fun E => ?_
  repeat' (first
    | with_reducible refine Then.n ?_
    | with_reducible refine Then.r ?_
    | with_reducible refine Then.x ?_
    | with_reducible refine InB.n ?_
    | with_reducible refine InB.r ?_
    | with_reducible refine InB.hit ?_
    | with_reducible refine InB.miss (by decide) ?_
    | ((with_reducible refine AL.on ?_); first
      | ((first | ((with_reducible refine AL.k_move ?_); first | (refine AL.q rfl (OQ.move wl) ?_)) | ((with_reducible refine AL.k_binOp ?_); first | refine AL.q rfl (OQ.subi rfl rfl (by omega)) ?_ | refine AL.q rfl (OQ.sub rfl rfl) ?_ | refine AL.q rfl (OQ.lss rfl rfl) ?_ | refine AL.q rfl (OQ.addi rfl rfl (by omega)) ?_ | refine AL.q rfl (OQ.add rfl rfl) ?_) | ((with_reducible refine AL.k_assign ?_); first | (refine AL.q rfl (OQ.assign wl) ?_)) | ((with_reducible refine AL.k_indexAddr ?_); first | refine AL.q rfl (OQ.idxAddr (ty := 29) (z := 1) (g := false) rfl rfl kr (by omega) (by omega)) ?_) | ((with_reducible refine AL.k_call ?_); first | refine AL.q rfl (OQ.lenS (xt := 29) (r := (none, 1, false)) rfl kr) ?_)); (conv => (arg 5; try tactic => exact nrm)))
      | ((first | first | (refine AL.w rfl (OW.store (ty := 3) (n := 1) rfl wl rfl rfl kr rfl rfl (by decide) rfl (Nat.le_of_ble_eq_true rfl) (by intro r h; cases h)) ?_)); (conv => (arg 5; try tactic => exact nrm)); (conv => (arg 6; try tactic => exact nrm)))
      | refine AL.nil ?_)
    | ((with_reducible refine AW.on ?_); first
      | refine AW.seq ?_
      | refine AW.skip ?_
      | refine AW.exit ?_
      | refine AW.ret ?_
      | (refine AW.block (id := 0) ?_; refine AW.unroll 1 ?_)
      | refine AW.block ?_
      | (refine AW.drawF (id := 3) 14 #[0, 0, 0, 0, 0, 0, 48, 112, 0, 0, 768, 1792, 4083, 8179, 16383, 32767] kr kr ?_; (conv => (arg 8; simp only [List.take_succ_cons, List.take_zero])))
      | refine AW.region ?_
      | (refine AW.conds rfl (fun hc => ?_) (fun hc => ?_) <;> (try replace hc := nc hc) <;> first | (exfalso; first | contradiction | (first | omega | (simp at hc; done)); done) | skip))
    | ((with_reducible refine AF.on ?_); first
      | ((first | ((with_reducible refine AF.k_move ?_); first | (refine AF.q 0 (SW.q (OQ.move wl) rfl) ?_)) | ((with_reducible refine AF.k_indexAddr ?_); first | refine AF.q 0 (SW.q (OQ.idxAddr (ty := 29) (z := 1) (g := false) rfl rfl kr (by omega) (by omega)) rfl) ?_) | ((with_reducible refine AF.k_load ?_); first | (refine AF.ql rfl (SW.q (OQ.load1 (ty := 3) rfl kr wl) rfl) ?_))); (conv => (arg 9; try tactic => exact nrmF)); (conv => (arg 11; try simp only [List.nil_append, List.cons_append])))
      | ((first | first | (refine AF.sl rfl (SW.w (OW.store (ty := 3) (n := 1) rfl wl rfl rfl kr rfl rfl (by decide) rfl (Nat.le_of_ble_eq_true rfl) (by intro r h; cases h)) rfl) rfl ?_)); (conv => (arg 9; try tactic => exact nrmF)); (conv => (arg 11; try simp only [List.nil_append, List.cons_append])); (conv => (arg 10; try tactic => exact nrmF)))
      | (refine AF.nil ?_ kr; (conv => (arg 4; simp only [List.drop_succ_cons, List.drop_zero, List.drop_nil]))))
    | with_reducible refine AR.s ?_
    | ((with_reducible refine AR.out ?_); first | omega | (simp at hc; done); done)
    | ((with_reducible refine FinP.on ?_); (first | refine FinP.ret .nil ?_ rfl | refine FinP.end .nil ?_ rfl); (try simp only [pack, List.drop, List.take]); all_goals (rfl)))
theorem half_0 (c z z1 : Nat) : PCalls Try.prog 52 [.slice none 0 0, .pointer (some ⟨1, 0, none⟩)] [some ⟨[], false, z⟩, some ⟨[.slice (some ⟨0, 0, none⟩) 0 c], false, z1⟩] (.slice none 0 0) := by
  refine PCalls.enter (t := [.slice none 0 0, .pointer (some ⟨1, 0, none⟩), undef, undef, undef, undef, undef, undef, undef, undef, undef, undef, undef, undef, undef, undef, undef, undef, undef, undef, undef, undef, undef, undef, undef, undef, undef, undef, undef, undef, undef, undef, undef, undef, undef, undef, undef, undef, undef, undef, undef, undef, undef, undef, undef, undef, undef, undef, undef, undef, undef, undef, undef, undef, undef, undef, undef, undef]) Try.func52 rfl (ro2p _ _ rfl rfl) rfl fun E => ?_
  repeat' (first
    | with_reducible refine Then.n ?_
    | with_reducible refine Then.r ?_
    | with_reducible refine Then.x ?_
    | with_reducible refine InB.n ?_
    | with_reducible refine InB.r ?_
    | with_reducible refine InB.hit ?_
    | with_reducible refine InB.miss (by decide) ?_
    | ((with_reducible refine AL.on ?_); first
      | (refine AL.gd rfl ?_; first | (refine AL.gskip rfl rfl ?_; (conv => (arg 5; try tactic => exact nrm))) | (refine AL.gs1 rfl rfl (fun hc => ?_) (fun hc => ?_) <;> (try replace hc := nc hc) <;> first | (exfalso; first | contradiction | (first | omega | (simp at hc; done)); done) | (conv => (arg 5; try tactic => exact nrm))) | (refine AL.gs0 rfl rfl (fun hc => ?_) (fun hc => ?_) <;> (try replace hc := nc hc) <;> first | (exfalso; first | contradiction | (first | omega | (simp at hc; done)); done) | (conv => (arg 5; try tactic => exact nrm))))
      | ((first | ((with_reducible refine AL.k_move ?_); first | (refine AL.q rfl (OQ.move wl) ?_)) | ((with_reducible refine AL.k_call ?_); first | refine AL.q rfl (OQ.lenS (xt := 29) (r := (none, 1, false)) rfl kr) ?_ | refine AL.q rfl (OQ.max2 rfl rfl) ?_) | ((with_reducible refine AL.k_load ?_); first | (refine AL.q rfl (OQ.load1 (ty := 3) rfl kr wl) ?_)) | ((with_reducible refine AL.k_binOp ?_); first | refine AL.q rfl (OQ.lss rfl rfl) ?_ | refine AL.q rfl (OQ.leq rfl rfl) ?_ | refine AL.q rfl (OQ.subi rfl rfl (by omega)) ?_ | refine AL.q rfl (OQ.sub rfl rfl) ?_ | refine AL.q rfl (OQ.addi rfl rfl (by omega)) ?_ | refine AL.q rfl (OQ.add rfl rfl) ?_) | ((with_reducible refine AL.k_assign ?_); first | (refine AL.q rfl (OQ.assign wl) ?_)) | ((with_reducible refine AL.k_indexAddr ?_); first | refine AL.q rfl (OQ.idxAddr (ty := 29) (z := 1) (g := false) rfl rfl kr (by omega) (by omega)) ?_) | ((with_reducible refine AL.k_pick ?_); first | (refine AL.q rfl (OQ.pickT rfl (by with_reducible rfl) wl) ?_) | (refine AL.q rfl (OQ.pickF rfl (by with_reducible rfl) wl) ?_)) | refine AL.q rfl (by exact OQ.sliceNil (ty := 29) (z := (none, 1, false)) rfl kr rfl rfl) ?_); (conv => (arg 5; try tactic => exact nrm)))
      | ((first | first | refine AL.pcall (g := 37) rfl kr rfl (rfl) ?_); (conv => (arg 5; try tactic => exact nrm)))
      | ((first | ((with_reducible refine AL.k_call ?_); first | refine AL.w rfl rfl ?_) | ((with_reducible refine AL.k_buildSlice ?_); first | refine AL.w rfl (OW.buildSl (ty := 29) (zs := [.int .i64 0]) (n := 1) (g := false) kr kr rfl rfl rfl (by decide) (by decide) rfl rfl) ?_)); (conv => (arg 5; try tactic => exact nrm)); (conv => (arg 6; try tactic => exact nrm)))
      | (refine AL.bs rfl (fun hc => ?_) (fun hc => ?_) <;> (fail_if_success (with_reducible exact lit_no hc)) <;> (try replace hc := nc hc) <;> first | (exfalso; first | contradiction | (first | omega | (simp at hc; done)); done) | (conv => (arg 5; try tactic => exact nrm)))
      | refine AL.nil ?_)
    | ((with_reducible refine AW.on ?_); first
      | refine AW.seq ?_
      | refine AW.skip ?_
      | refine AW.exit ?_
      | refine AW.ret ?_
      | (refine AW.block (id := 0) ?_; refine AW.unroll 1 ?_)
      | refine AW.block ?_
      | (refine AW.drawF (id := 5) 26 #[0, 1, 3, 7, 15, 15, 15, 79, 207, 495, 1007, 2047, 4095, 15, 15, 15, 32783, 98319, 245775, 507919, 1040399, 2088975, 15, 15, 12582927, 29360143, 67108863, 134217727, 268435455] kr kr ?_; (conv => (arg 8; simp only [List.take_succ_cons, List.take_zero])))
      | refine AW.region ?_
      | (refine AW.conds rfl (fun hc => ?_) (fun hc => ?_) <;> (try replace hc := nc hc) <;> first | (exfalso; first | contradiction | (first | omega | (simp at hc; done)); done) | skip))
    | ((with_reducible refine AF.on ?_); first
      | (refine AF.q 0 (SW.skip rfl rfl) ?_; (conv => (arg 9; try tactic => exact nrmF)); (conv => (arg 11; try simp only [List.nil_append, List.cons_append])))
      | ((first | refine AF.q 0 (SW.no1 rfl rfl (by with_reducible rfl)) ?_ | refine AF.q 0 (SW.no0 rfl rfl (by with_reducible rfl)) ?_); (conv => (arg 9; try tactic => exact nrmF)); (conv => (arg 11; try simp only [List.nil_append, List.cons_append])))
      | ((first | ((with_reducible refine AF.k_move ?_); first | (refine AF.q 0 (SW.q (OQ.move wl) rfl) ?_) | (refine AF.q 0 (SW.yes (SW.q (OQ.move wl) rfl) rfl rfl (by with_reducible rfl)) ?_)) | ((with_reducible refine AF.k_call ?_); first | refine AF.q 0 (SW.q (OQ.lenS (xt := 29) (r := (none, 1, false)) rfl kr) rfl) ?_ | refine AF.q 0 (SW.yes (SW.q (OQ.lenS (xt := 29) (r := (none, 1, false)) rfl kr) rfl) rfl rfl (by with_reducible rfl)) ?_) | ((with_reducible refine AF.k_load ?_); first | (refine AF.ql rfl (SW.yes (SW.q (OQ.load1 (ty := 22) rfl kr wl) rfl) rfl rfl (by with_reducible rfl)) ?_) | (refine AF.ql rfl (SW.yes (SW.q (OQ.load1 (ty := 3) rfl kr wl) rfl) rfl rfl (by with_reducible rfl)) ?_) | refine AF.ql rfl (SW.yes (SW.q (OQ.loadN (ty := 47) (n := 2) rfl kr kr rfl) rfl) rfl rfl (by with_reducible rfl)) ?_) | ((with_reducible refine AF.k_binOp ?_); first | refine AF.q 0 (SW.q (OQ.gtr rfl rfl) rfl) ?_ | refine AF.q 0 (SW.yes (SW.q (OQ.subi rfl rfl (by omega)) rfl) rfl rfl (by with_reducible rfl)) ?_ | refine AF.q 0 (SW.yes (SW.q (OQ.sub rfl rfl) rfl) rfl rfl (by with_reducible rfl)) ?_) | ((with_reducible refine AF.k_indexAddr ?_); first | refine AF.q 0 (SW.yes (SW.q (OQ.idxAddr (ty := 29) (z := 1) (g := false) rfl rfl kr (by omega) (by omega)) rfl) rfl rfl (by with_reducible rfl)) ?_ | refine AF.q 0 (SW.yes (SW.q (OQ.idxAddr (ty := 22) (z := 2) (g := true) rfl rfl kr (by omega) (by omega)) rfl) rfl rfl (by with_reducible rfl)) ?_)); (conv => (arg 9; try tactic => exact nrmF)); (conv => (arg 11; try simp only [List.nil_append, List.cons_append])))
      | (refine AF.gs1 rfl rfl (fun hc => ?_) (fun hc => ?_) <;> (fail_if_success (with_reducible exact lit_no hc)) <;> (try replace hc := nc hc) <;> first | (exfalso; first | contradiction | (first | omega | (simp at hc; done)); done) | skip)
      | (refine AF.gs0 rfl rfl (fun hc => ?_) (fun hc => ?_) <;> (fail_if_success (with_reducible exact lit_no hc)) <;> (try replace hc := nc hc) <;> first | (exfalso; first | contradiction | (first | omega | (simp at hc; done)); done) | skip)
      | (refine AF.nil ?_ kr; (conv => (arg 4; simp only [List.drop_succ_cons, List.drop_zero, List.drop_nil]))))
    | with_reducible refine AR.s ?_
    | ((with_reducible refine AR.out ?_); first | omega | (simp at hc; done); done)
    | ((with_reducible refine FinP.on ?_); (first | refine FinP.ret (.tmp wl .nil) ?_ rfl | refine FinP.end (.tmp wl .nil) ?_ rfl); (try simp only [pack, List.drop, List.take]); all_goals (rfl)))
theorem sorted_0 (c z : Nat) : PCalls Try.prog 53 [.slice (some ⟨0, 0, none⟩) 0 c] [some ⟨[], false, z⟩] (.slice none 0 0) := by
  refine PCalls.enter (t := [.slice (some ⟨0, 0, none⟩) 0 c, undef, undef, undef, undef, undef, undef, undef, undef, undef, undef, undef, undef, undef, undef, undef, undef, undef, undef]) Try.func53 rfl (ro1p _ rfl) rfl fun E => ?_
  repeat' (first
    | with_reducible refine Then.n ?_
    | with_reducible refine Then.r ?_
    | with_reducible refine Then.x ?_
    | with_reducible refine InB.n ?_
    | with_reducible refine InB.r ?_
    | with_reducible refine InB.hit ?_
    | with_reducible refine InB.miss (by decide) ?_
    | ((with_reducible refine AL.on ?_); first
      | ((first | ((with_reducible refine AL.k_move ?_); first | (refine AL.q rfl (OQ.move wl) ?_)) | ((with_reducible refine AL.k_assign ?_); first | (refine AL.q rfl (OQ.assign wl) ?_)) | ((with_reducible refine AL.k_call ?_); first | refine AL.q rfl (OQ.lenS (xt := 22) (r := (none, 2, true)) rfl kr) ?_) | ((with_reducible refine AL.k_binOp ?_); first | refine AL.q rfl (OQ.lss rfl rfl) ?_ | refine AL.q rfl (OQ.addi rfl rfl (by omega)) ?_ | refine AL.q rfl (OQ.add rfl rfl) ?_) | ((with_reducible refine AL.k_load ?_); first | (refine AL.q rfl (OQ.load1 (ty := 22) rfl kr wl) ?_))); (conv => (arg 5; try tactic => exact nrm)))
      | ((first | ((with_reducible refine AL.k_call ?_); first | refine AL.pcall (g := 74) rfl kr rfl (sortI_0) ?_) | refine AL.q rfl OQ.mkfn ?_); (conv => (arg 5; try tactic => exact nrm)))
      | ((first | ((with_reducible refine AL.k_call ?_); first | refine AL.w rfl rfl ?_) | ((with_reducible refine AL.k_box ?_); first | (refine AL.w rfl (OW.box wl (by intro r h; cases h)) ?_)) | ((with_reducible refine AL.k_buildSlice ?_); first | refine AL.w rfl (OW.buildSl (ty := 29) (zs := [.int .i64 0]) (n := 1) (g := false) kr kr rfl rfl rfl (by decide) (by decide) rfl rfl) ?_)); (conv => (arg 5; try tactic => exact nrm)); (conv => (arg 6; try tactic => exact nrm)))
      | refine AL.nil ?_)
    | ((with_reducible refine AW.on ?_); first
      | refine AW.seq ?_
      | refine AW.skip ?_
      | refine AW.exit ?_
      | refine AW.ret ?_
      | (refine AW.block (id := 0) ?_; refine AW.unroll 1 ?_)
      | refine AW.block ?_
      | refine AW.region ?_
      | (refine AW.conds rfl (fun hc => ?_) (fun hc => ?_) <;> (try replace hc := nc hc) <;> first | (exfalso; first | contradiction | (first | omega | (simp at hc; done)); done) | skip))
    | with_reducible refine AR.s ?_
    | ((with_reducible refine AR.out ?_); first | omega | (simp at hc; done); done)
    | ((with_reducible refine FinP.on ?_); (first | refine FinP.ret (.tmp wl .nil) ?_ rfl | refine FinP.end (.tmp wl .nil) ?_ rfl); (try simp only [pack, List.drop, List.take]); all_goals (rfl)))
theorem sorted_0q {m : Mem} {b c : Nat} {blk : Blk} (hb : m.at b = some blk) (hc : blk.cells = []) (ho : blk.obj = Ob.plain := by rfl) : PCalls Try.prog 53 [.slice (some ⟨b, 0, none⟩) 0 c] m (.slice none 0 0) :=
  PCalls.viaS [b] (sorted_0 c blk.esz) (ro1p _ rfl) ⟨⟨_, hb, by unfold Blk.shp Blk.shpR; rw [ho]; rfl, (fun h => nomatch h), .inl ⟨hc, rfl⟩⟩, trivial⟩ rfl rfl rfl rfl
theorem half_0q {m : Mem} {b d c : Nat} {blk blk1 : Blk} (hb : m.at b = some blk) (hc : blk.cells = []) (hd : m.at d = some blk1) (hc1 : blk1.cells = [.slice (some ⟨b, 0, none⟩) 0 c]) (ho : blk.obj = Ob.plain := by rfl) (ho1 : blk1.obj = Ob.plain := by rfl) :
    PCalls Try.prog 52 [.slice none 0 0, .pointer (some ⟨d, 0, none⟩)] m (.slice none 0 0) :=
  PCalls.viaS [b, d] (half_0 c blk.esz blk1.esz) (ro2p _ _ rfl rfl) ⟨⟨_, hb, by unfold Blk.shp Blk.shpR; rw [ho]; rfl, (fun h => nomatch h), .inl ⟨hc, rfl⟩⟩, ⟨_, hd, by unfold Blk.shp Blk.shpR; rw [ho1]; rfl, (fun h => nomatch h), .inr ⟨hc1, rfl⟩⟩, trivial⟩ rfl rfl rfl rfl
theorem hull_0 (c z : Nat) : PCalls Try.prog 31 [.slice (some ⟨0, 0, none⟩) 0 c] [some ⟨[], false, z⟩] (.slice none 0 0) := by
  have hS := fun (m : Mem) (b : Nat) (blk : Blk) (h1 : m.at b = some blk) (h2 : blk.cells = []) (h3 : blk.obj = Ob.plain) => sorted_0q (c := c) h1 h2 h3
  have hF := fun (m : Mem) (b d : Nat) (blk blk1 : Blk) (h1 : m.at b = some blk) (h2 : blk.cells = []) (h3 : m.at d = some blk1) (h4 : blk1.cells = [.slice (some ⟨b, 0, none⟩) 0 c]) (o1 : blk.obj = Ob.plain) (o2 : blk1.obj = Ob.plain) => half_0q h1 h2 h3 h4 o1 o2
  refine PCalls.enter (t := [.slice (some ⟨0, 0, none⟩) 0 c, undef, undef, undef, undef, undef, undef, undef, undef, undef, undef, undef, undef, undef, undef, undef, undef, undef, undef]) Try.func31 rfl (ro1p _ rfl) rfl fun E => ?_
  repeat' (first
    | with_reducible refine Then.n ?_
    | with_reducible refine Then.r ?_
    | with_reducible refine Then.x ?_
    | with_reducible refine InB.n ?_
    | with_reducible refine InB.r ?_
    | with_reducible refine InB.hit ?_
    | with_reducible refine InB.miss (by decide) ?_
    | ((with_reducible refine AL.on ?_); first
      | ((first | ((with_reducible refine AL.k_move ?_); first | (refine AL.q rfl (OQ.move wl) ?_)) | ((with_reducible refine AL.k_assign ?_); first | (refine AL.q rfl (OQ.assign wl) ?_)) | ((with_reducible refine AL.k_call ?_); first | refine AL.q rfl (by exact OQ.append0 (v := undef) (e := 3) (z := 1) rfl rfl kr kr) ?_) | ((with_reducible refine AL.k_load ?_); first | (refine AL.q rfl (OQ.load1 (ty := 22) rfl kr wl) ?_))); (conv => (arg 5; try tactic => exact nrm)))
      | ((first | ((with_reducible refine AL.k_call ?_); first | refine AL.pcall (g := 53) rfl kr rfl ((by exact hS _ 0 _ rfl rfl rfl)) ?_ | refine AL.pcall rfl (by first | assumption | kernel_rfl) rfl ((by exact hF _ 0 1 _ _ rfl rfl rfl rfl rfl rfl)) ?_ | refine AL.pcall (g := 54) rfl kr rfl (Reverse_0 _) ?_) | refine AL.q rfl OQ.mkfn ?_); (conv => (arg 5; try tactic => exact nrm)))
      | ((first | first | (refine AL.w rfl (OW.box wl (by intro r h; cases h)) ?_)); (conv => (arg 5; try tactic => exact nrm)); (conv => (arg 6; try tactic => exact nrm)))
      | refine AL.nil ?_)
    | ((with_reducible refine AW.on ?_); first
      | refine AW.seq ?_
      | refine AW.skip ?_
      | refine AW.exit ?_
      | refine AW.ret ?_
      | refine AW.block ?_
      | refine AW.region ?_
      | (refine AW.conds rfl (fun hc => ?_) (fun hc => ?_) <;> (try replace hc := nc hc) <;> first | (exfalso; first | contradiction | (first | omega | (simp at hc; done)); done) | skip))
    | ((with_reducible refine FinP.on ?_); (first | refine FinP.ret (.tmp wl .nil) ?_ rfl | refine FinP.end (.tmp wl .nil) ?_ rfl); (try simp only [pack, List.drop, List.take]); all_goals (rfl)))
theorem hull_1 (l : List Pn) (hok : ∀ k, k < l.length → (pt l k).Ok) (hap : Apart l) (h0 : l.length = 1) (c z : Nat) :
    ACalls Try.prog 31 [.slice (some ⟨0, 0, none⟩) 1 c] [some ⟨flatP l, false, z⟩] (.slice (some ⟨1, 0, none⟩) 0 INF) [some ⟨flatP l, false, z⟩, some ⟨flatO (ouK l (ordL l) 1), true, 1⟩] := by
  have hS := fun (m : Mem) (b : Nat) (blk : Blk) (h1 : m.at b = some blk) (h2 : blk.cells = flatP l) (h3 : blk.obj = Ob.plain) => sorted_q (c := c) (n := 1) l hap (by omega) (by omega) h1 h2 h0 h3
  have hm1 : ∀ x ∈ ordL l, x < l.length := fun x hx => (ordL_sorted hap).mem x |>.1 hx
  have hm2 : ∀ x ∈ (ordL l).reverse, x < l.length := fun x hx => hm1 x (List.mem_reverse.1 hx)
  have hlen : (ordL l).length = 1 := (ordL_len l).trans h0
  have hlen2 : (ordL l).reverse.length = 1 := by rw [List.length_reverse, hlen]
  have a1 := ouK_len (l := l) (o := ordL l) 1 (by omega)
  have a2 := ouK_len (l := l) (o := (ordL l).reverse) 1 (by omega)
  have p1 := ouK_pos (l := l) (o := ordL l) (k := 1) (by omega) (by omega)
  have p2 := ouK_pos (l := l) (o := (ordL l).reverse) (k := 1) (by omega) (by omega)
  have hF1 := fun (m : Mem) (b d e cc : Nat) (blk blk1 blk2 : Blk) (h1 : m.at b = some blk) (h2 : blk.cells = flatP l) (h3 : m.at d = some blk1) (h4 : blk1.cells = [.slice (some ⟨b, 0, none⟩) l.length c]) (h5 : m.at e = some blk2) (h6 : blk2.cells = flatO (ordL l)) (h7 : [b, d, e].Nodup) (o1 : blk.obj = Ob.plain) (o2 : blk1.obj = Ob.plain) (o3 : blk2.obj = Ob.plain) => half_q (c := cc) (n := 1) l (ordL l) hok hm1 hlen (by omega) (by omega) (by omega) h1 h2 h3 h4 h5 h6 h7 o1 o2 o3
  have hF2 := fun (m : Mem) (b d e cc : Nat) (blk blk1 blk2 : Blk) (h1 : m.at b = some blk) (h2 : blk.cells = flatP l) (h3 : m.at d = some blk1) (h4 : blk1.cells = [.slice (some ⟨b, 0, none⟩) l.length c]) (h5 : m.at e = some blk2) (h6 : blk2.cells = flatO (ordL l).reverse) (h7 : [b, d, e].Nodup) (o1 : blk.obj = Ob.plain) (o2 : blk1.obj = Ob.plain) (o3 : blk2.obj = Ob.plain) => half_q (c := cc) (n := 1) l (ordL l).reverse hok hm2 hlen2 (by omega) (by omega) (by omega) h1 h2 h3 h4 h5 h6 h7 o1 o2 o3
  have hR := fun (m : Mem) (b cc z : Nat) (h : m.at b = some ⟨flatO (ordL l), true, z⟩) => Reverse_q (c := cc) (n := 1) (ordL l) h hlen (by omega)
  generalize ouK l (ordL l) 1 = A1 at *
  generalize ouK l (ordL l).reverse 1 = A2 at *
  have e1 : A1.length - 1 = 0 := by omega
  have e2 : A2.length - 1 = 0 := by omega
  rw [e1] at hF1
  rw [e2] at hF2
  rw [h0] at hF1 hF2
  refine ACalls.enter (t := [.slice (some ⟨0, 0, none⟩) 1 c, undef, undef, undef, undef, undef, undef, undef, undef, undef, undef, undef, undef, undef, undef, undef, undef, undef, undef]) Try.func31 rfl rfl fun E hE => ?_
  repeat' (first
    | with_reducible refine Then.n ?_
    | with_reducible refine Then.r ?_
    | with_reducible refine Then.x ?_
    | with_reducible refine InB.n ?_
    | with_reducible refine InB.r ?_
    | with_reducible refine InB.hit ?_
    | with_reducible refine InB.miss (by decide) ?_
    | ((with_reducible refine AL.on ?_); first
      | ((first | ((with_reducible refine AL.k_move ?_); first | (refine AL.q rfl (OQ.move wl) ?_)) | ((with_reducible refine AL.k_assign ?_); first | (refine AL.q rfl (OQ.assign wl) ?_)) | ((with_reducible refine AL.k_call ?_); first | refine AL.q rfl (by exact OQ.append0 (v := undef) (e := 3) (z := 1) rfl rfl kr kr) ?_) | ((with_reducible refine AL.k_load ?_); first | (refine AL.q rfl (OQ.load1 (ty := 22) rfl kr wl) ?_))); (conv => (arg 5; try tactic => exact nrm)))
      | ((first | refine AL.q rfl OQ.mkfn ?_); (conv => (arg 5; try tactic => exact nrm)))
      | ((first | ((with_reducible refine AL.k_call ?_); first | refine AL.acall (g := 53) rfl kr rfl ((by exact hS _ 0 _ rfl rfl rfl)) ?_ | refine AL.acall rfl (by first | assumption | kernel_rfl) rfl ((by first | exact hF1 _ 0 1 2 _ _ _ _ rfl rfl rfl rfl rfl rfl (by decide) rfl rfl rfl | exact hF2 _ 0 1 2 _ _ _ _ rfl rfl rfl rfl rfl rfl (by decide) rfl rfl rfl)) ?_ | refine AL.acall (g := 54) rfl kr rfl ((by exact hR _ 2 _ _ rfl)) ?_) | ((with_reducible refine AL.k_box ?_); first | (refine AL.w rfl (OW.box wl (by intro r h; cases h)) ?_))); (conv => (arg 5; try tactic => exact nrm)); (conv => (arg 6; try tactic => exact nrm)))
      | refine AL.nil ?_)
    | ((with_reducible refine AW.on ?_); first
      | refine AW.seq ?_
      | refine AW.skip ?_
      | refine AW.exit ?_
      | refine AW.ret ?_
      | refine AW.block ?_
      | refine AW.region ?_
      | (refine AW.conds rfl (fun hc => ?_) (fun hc => ?_) <;> (try replace hc := nc hc) <;> first | (exfalso; first | contradiction | (first | omega | (simp at hc; done)); done) | skip))
    | ((with_reducible refine FinA.on ?_); (refine FinA.keep 1 [3] (.inl rfl) (.tmp wl .nil) ?_ rfl (Nat.le_of_eq hE) rfl rfl ⟨⟨_, rfl, rfl, rfl, .inl ⟨rfl, flatP_scal l⟩⟩, ⟨_, rfl, rfl, rfl, .inl ⟨rfl, flatO_scal _⟩⟩, trivial⟩; rfl)))
end Go.Proofs.Ytmohcmghbfhdlaa
end
end
/- Chapter 6: Hull of both sides, for all right points. -/
section
set_option linter.unusedSimpArgs false
set_option linter.unusedVariables false
section
namespace Go.Me
open Go.Ab
def hl (l : List Pn) : List Nat := hullI l (ordL l)
theorem hl_ring {l : List Pn} (h0 : cpB l = 0) (hf : flK l (l.length - 2) = false) : Ring l (hl l) (fsK l l.length) :=
  have ⟨_, hok, hap⟩ := cp_ok h0
  ring_of hok hap hf
theorem hl_flat {l : List Pn} (h0 : cpB l = 0) (hf : flK l (l.length - 2) = true) : (hl l).length ≤ 2 :=
  have ⟨_, _, hap⟩ := cp_ok h0
  hull_flat hap (ordL_sorted hap) (flK_flat.1 hf)
end Go.Me
namespace Go.Proofs.Ytmohcmghbfhdlaa
open Go Go.RowKit Go.Ab Go.Me
set_option maxRecDepth 100000
set_option maxHeartbeats 4000000
attribute [local irreducible] OQ OW AL AW AD AF SW
theorem hull_q {m : Mem} {b n c : Nat} {blk : Blk} (l : List Pn) (h0 : cpB l = 0) (h2 : 2 ≤ n) (hb : m.at b = some blk) (hc : blk.cells = flatP l) (hn : l.length = n) (ho : blk.obj = Ob.plain := by rfl) :
    ACalls Try.prog 31 [.slice (some ⟨b, 0, none⟩) n c] m (.slice (some ⟨m.length, 0, none⟩) (hl l).length INF) (m ++ [some ⟨flatO (hl l), true, 1⟩]) := by
  subst hn
  obtain ⟨h40, hok, hap⟩ := cp_ok h0
  have h := ACalls.viaS (m := m) (args := [.slice (some ⟨b, 0, none⟩) l.length c]) (v := .slice (some ⟨m.length, 0, none⟩) (hl l).length INF) [b] [] [some ⟨flatO (hl l), true, 1⟩] (hull_c l hok hap h2 (by omega) c blk.esz) ⟨⟨_, hb, by unfold Blk.shp Blk.shpR; rw [ho]; rfl, (fun h => nomatch h), .inl ⟨hc, flatP_scal _⟩⟩, trivial⟩ (by simp) ⟨⟨_, rfl, rfl⟩, ⟨rfl, rfl, rfl, .inl ⟨rfl, flatO_scal _⟩⟩, trivial⟩ rfl rfl rfl rfl
  exact h
theorem Hull_y0 (l : List Pn) (c z : Nat) (h0 : cpB l = 0) (hf : flK l (l.length - 2) = false) (hz : z = 0 ∨ z = 2) :
    ACalls Try.prog 10 [.slice (some ⟨0, 0, none⟩) l.length c] [some ⟨flatP l, false, z⟩] (.tuple #[.slice (some ⟨1, 0, none⟩) (hl l).length INF, .int .i64 0]) [some ⟨flatP l, false, z⟩, some ⟨flatO (hl l), true, 1⟩] := by
  obtain ⟨h40, hok, hap⟩ := cp_ok h0
  have hR := hl_ring h0 hf
  have hl3 := hR.len
  have hln := hR.le
  have hp := fun (m : Mem) (b : Nat) (blk : Blk) (h1 : m.at b = some blk) (h2 : blk.cells = flatP l) (h3 : blk.esz = 0 ∨ blk.esz = 2) (h4 : blk.obj = Ob.plain) => CheckPoints_q (c := c) l h1 h2 rfl (by omega) h3 h4
  rw [h0] at hp
  have hh := fun (m : Mem) (b : Nat) (blk : Blk) (h1 : m.at b = some blk) (h2 : blk.cells = flatP l) (h4 : blk.obj = Ob.plain) => hull_q (c := c) l h0 (by omega) h1 h2 rfl h4
  clear hR
  generalize cpA l = A0 at *
  generalize hl l = H at *
  refine ACalls.enter (t := [.slice (some ⟨0, 0, none⟩) l.length c, undef, undef, undef, undef, undef, undef, undef, undef, undef, undef, undef, undef, undef, undef, undef, undef, undef, undef, undef, undef]) Try.func10 rfl rfl fun E hE => ?_
  repeat' (first
    | with_reducible refine Then.n ?_
    | with_reducible refine Then.r ?_
    | with_reducible refine Then.x ?_
    | with_reducible refine InB.n ?_
    | with_reducible refine InB.r ?_
    | with_reducible refine InB.hit ?_
    | with_reducible refine InB.miss (by decide) ?_
    | ((with_reducible refine AL.on ?_); first
      | ((first | ((with_reducible refine AL.k_assign ?_); first | (refine AL.q rfl (OQ.assign wl) ?_)) | ((with_reducible refine AL.k_move ?_); first | (refine AL.q rfl (OQ.move wl) ?_)) | ((with_reducible refine AL.k_call ?_); first | refine AL.q rfl (OQ.lenS (xt := 29) (r := (none, 1, false)) rfl kr) ?_) | ((with_reducible refine AL.k_extract ?_); first | refine AL.q rfl (OQ.extract rfl rfl) ?_) | ((with_reducible refine AL.k_binOp ?_); first | refine AL.q rfl (OQ.neq rfl rfl) ?_ | refine AL.q rfl (OQ.lss rfl rfl) ?_)); (conv => (arg 5; try tactic => exact nrm)))
      | ((first | first | refine AL.pcall (g := 8) rfl kr rfl ((by exact hp _ 0 _ rfl rfl hz rfl)) ?_); (conv => (arg 5; try tactic => exact nrm)))
      | ((first | first | refine AL.acall (g := 31) rfl kr rfl ((by exact hh _ 0 _ rfl rfl rfl)) ?_); (conv => (arg 5; try tactic => exact nrm)); (conv => (arg 6; try tactic => exact nrm)))
      | refine AL.nil ?_)
    | ((with_reducible refine AW.on ?_); first
      | refine AW.seq ?_
      | refine AW.skip ?_
      | refine AW.exit ?_
      | refine AW.ret ?_
      | refine AW.block ?_
      | refine AW.region ?_
      | (refine AW.conds rfl (fun hc => ?_) (fun hc => ?_) <;> (try replace hc := nc hc) <;> first | (exfalso; first | contradiction | (first | omega | (simp at hc; done)); done) | skip))
    | ((with_reducible refine FinA.on ?_); (refine FinA.keep 2 [] (.inl rfl) (.tmp wl (.tmp wl .nil)) ?_ rfl (by rw [hE]; exact (by decide : 1 ≤ 2)) rfl rfl ⟨⟨_, rfl, rfl, rfl, .inl ⟨rfl, flatP_scal l⟩⟩, ⟨_, rfl, rfl, rfl, .inl ⟨rfl, flatO_scal _⟩⟩, trivial⟩; rfl)))
theorem Hull_y {m : Mem} {b n c : Nat} {blk : Blk} (l : List Pn) (h0 : cpB l = 0) (hf : flK l (l.length - 2) = false) (hb : m.at b = some blk) (hc : blk.cells = flatP l) (hn : l.length = n) (hz : blk.esz = 0 ∨ blk.esz = 2) (ho : blk.obj = Ob.plain := by rfl) :
    ACalls Try.prog 10 [.slice (some ⟨b, 0, none⟩) n c] m (.tuple #[.slice (some ⟨m.length, 0, none⟩) (hl l).length INF, .int .i64 0]) (m ++ [some ⟨flatO (hl l), true, 1⟩]) := by
  subst hn
  have h := ACalls.viaS (m := m) (args := [.slice (some ⟨b, 0, none⟩) l.length c]) (v := .tuple #[.slice (some ⟨m.length, 0, none⟩) (hl l).length INF, .int .i64 0]) [b] [] [some ⟨flatO (hl l), true, 1⟩] (Hull_y0 l c blk.esz h0 hf hz) ⟨⟨_, hb, by unfold Blk.shp Blk.shpR; rw [ho]; rfl, (fun h => nomatch h), .inl ⟨hc, flatP_scal _⟩⟩, trivial⟩ (by simp) ⟨⟨_, rfl, rfl⟩, ⟨rfl, rfl, rfl, .inl ⟨rfl, flatO_scal _⟩⟩, trivial⟩ rfl rfl rfl rfl
  exact h
theorem Hull_n0 (l : List Pn) (c z : Nat) (h0 : cpB l = 0) (hf : flK l (l.length - 2) = true) (hz : z = 0 ∨ z = 2) :
    PCalls Try.prog 10 [.slice (some ⟨0, 0, none⟩) l.length c] [some ⟨flatP l, false, z⟩] (.tuple #[.slice none 0 0, .int .i64 30]) := by
  obtain ⟨h40, hok, hap⟩ := cp_ok h0
  have hl2 := hl_flat h0 hf
  have hp := fun (m : Mem) (b : Nat) (blk : Blk) (h1 : m.at b = some blk) (h2 : blk.cells = flatP l) (h3 : blk.esz = 0 ∨ blk.esz = 2) (h4 : blk.obj = Ob.plain) => CheckPoints_q (c := c) l h1 h2 rfl (by omega) h3 h4
  rw [h0] at hp
  have hh := fun (h2' : 2 ≤ l.length) (m : Mem) (b : Nat) (blk : Blk) (h1 : m.at b = some blk) (h2 : blk.cells = flatP l) (h4 : blk.obj = Ob.plain) => hull_q (c := c) l h0 h2' h1 h2 rfl h4
  generalize cpA l = A0 at *
  generalize hl l = H at *
  rcases Nat.lt_or_ge l.length 2 with hlt | hge
  · rcases Nat.lt_or_ge l.length 1 with hlt1 | hge1
    · have hnil : l = [] := List.eq_nil_of_length_eq_zero (by omega)
      subst hnil
      have h00 := hull_0 c z
      refine PCalls.enter (t := [.slice (some ⟨0, 0, none⟩) 0 c, undef, undef, undef, undef, undef, undef, undef, undef, undef, undef, undef, undef, undef, undef, undef, undef, undef, undef, undef, undef]) Try.func10 rfl (ro1p _ rfl) rfl fun E => ?_
      repeat' (first
        | with_reducible refine Then.n ?_
        | with_reducible refine Then.r ?_
        | with_reducible refine Then.x ?_
        | with_reducible refine InB.n ?_
        | with_reducible refine InB.r ?_
        | with_reducible refine InB.hit ?_
        | with_reducible refine InB.miss (by decide) ?_
        | ((with_reducible refine AL.on ?_); first
          | ((first | ((with_reducible refine AL.k_assign ?_); first | (refine AL.q rfl (OQ.assign wl) ?_)) | ((with_reducible refine AL.k_move ?_); first | (refine AL.q rfl (OQ.move wl) ?_)) | ((with_reducible refine AL.k_call ?_); first | refine AL.q rfl (OQ.lenS (xt := 29) (r := (none, 1, false)) rfl kr) ?_) | ((with_reducible refine AL.k_extract ?_); first | refine AL.q rfl (OQ.extract rfl rfl) ?_) | ((with_reducible refine AL.k_binOp ?_); first | refine AL.q rfl (OQ.neq rfl rfl) ?_ | refine AL.q rfl (OQ.lss rfl rfl) ?_)); (conv => (arg 5; try tactic => exact nrm)))
          | ((first | first | refine AL.pcall (g := 8) rfl kr rfl ((by exact hp _ 0 _ rfl rfl hz rfl)) ?_ | refine AL.pcall (g := 31) rfl kr rfl ((by exact h00)) ?_); (conv => (arg 5; try tactic => exact nrm)))
          | refine AL.nil ?_)
        | ((with_reducible refine AW.on ?_); first
          | refine AW.seq ?_
          | refine AW.skip ?_
          | refine AW.exit ?_
          | refine AW.ret ?_
          | refine AW.block ?_
          | refine AW.region ?_
          | (refine AW.conds rfl (fun hc => ?_) (fun hc => ?_) <;> (try replace hc := nc hc) <;> first | (exfalso; first | contradiction | (first | omega | (simp at hc; done)); done) | skip))
        | ((with_reducible refine FinP.on ?_); (first | refine FinP.ret (.tmp wl (.tmp wl .nil)) ?_ rfl | refine FinP.end (.tmp wl (.tmp wl .nil)) ?_ rfl); (try simp only [pack, List.drop, List.take]); all_goals (rfl)))
    · have hln : l.length = 1 := by omega
      have h11 := hull_1 l hok hap hln c z
      rw [hln] at hp ⊢
      refine PCalls.enter (t := [.slice (some ⟨0, 0, none⟩) 1 c, undef, undef, undef, undef, undef, undef, undef, undef, undef, undef, undef, undef, undef, undef, undef, undef, undef, undef, undef, undef]) Try.func10 rfl (ro1p _ rfl) rfl fun E => ?_
      repeat' (first
        | with_reducible refine Then.n ?_
        | with_reducible refine Then.r ?_
        | with_reducible refine Then.x ?_
        | with_reducible refine InB.n ?_
        | with_reducible refine InB.r ?_
        | with_reducible refine InB.hit ?_
        | with_reducible refine InB.miss (by decide) ?_
        | ((with_reducible refine AL.on ?_); first
          | ((first | ((with_reducible refine AL.k_assign ?_); first | (refine AL.q rfl (OQ.assign wl) ?_)) | ((with_reducible refine AL.k_move ?_); first | (refine AL.q rfl (OQ.move wl) ?_)) | ((with_reducible refine AL.k_call ?_); first | refine AL.q rfl (OQ.lenS (xt := 29) (r := (none, 1, false)) rfl kr) ?_) | ((with_reducible refine AL.k_extract ?_); first | refine AL.q rfl (OQ.extract rfl rfl) ?_) | ((with_reducible refine AL.k_binOp ?_); first | refine AL.q rfl (OQ.neq rfl rfl) ?_ | refine AL.q rfl (OQ.lss rfl rfl) ?_)); (conv => (arg 5; try tactic => exact nrm)))
          | ((first | first | refine AL.pcall (g := 8) rfl kr rfl ((by exact hp _ 0 _ rfl rfl hz rfl)) ?_); (conv => (arg 5; try tactic => exact nrm)))
          | ((first | first | refine AL.acall (g := 31) rfl kr rfl ((by exact h11)) ?_); (conv => (arg 5; try tactic => exact nrm)); (conv => (arg 6; try tactic => exact nrm)))
          | refine AL.nil ?_)
        | ((with_reducible refine AW.on ?_); first
          | refine AW.seq ?_
          | refine AW.skip ?_
          | refine AW.exit ?_
          | refine AW.ret ?_
          | refine AW.block ?_
          | refine AW.region ?_
          | (refine AW.conds rfl (fun hc => ?_) (fun hc => ?_) <;> (try replace hc := nc hc) <;> first | (exfalso; first | contradiction | (first | omega | (simp at hc; done)); done) | skip))
        | ((with_reducible refine FinP.on ?_); (first | refine FinP.ret (.tmp wl (.tmp wl .nil)) ?_ rfl | refine FinP.end (.tmp wl (.tmp wl .nil)) ?_ rfl); (try simp only [pack, List.drop, List.take]); all_goals (rfl)))
  · skip
    refine PCalls.enter (t := [.slice (some ⟨0, 0, none⟩) l.length c, undef, undef, undef, undef, undef, undef, undef, undef, undef, undef, undef, undef, undef, undef, undef, undef, undef, undef, undef, undef]) Try.func10 rfl (ro1p _ rfl) rfl fun E => ?_
    repeat' (first
      | with_reducible refine Then.n ?_
      | with_reducible refine Then.r ?_
      | with_reducible refine Then.x ?_
      | with_reducible refine InB.n ?_
      | with_reducible refine InB.r ?_
      | with_reducible refine InB.hit ?_
      | with_reducible refine InB.miss (by decide) ?_
      | ((with_reducible refine AL.on ?_); first
        | ((first | ((with_reducible refine AL.k_assign ?_); first | (refine AL.q rfl (OQ.assign wl) ?_)) | ((with_reducible refine AL.k_move ?_); first | (refine AL.q rfl (OQ.move wl) ?_)) | ((with_reducible refine AL.k_call ?_); first | refine AL.q rfl (OQ.lenS (xt := 29) (r := (none, 1, false)) rfl kr) ?_) | ((with_reducible refine AL.k_extract ?_); first | refine AL.q rfl (OQ.extract rfl rfl) ?_) | ((with_reducible refine AL.k_binOp ?_); first | refine AL.q rfl (OQ.neq rfl rfl) ?_ | refine AL.q rfl (OQ.lss rfl rfl) ?_)); (conv => (arg 5; try tactic => exact nrm)))
        | ((first | first | refine AL.pcall (g := 8) rfl kr rfl ((by exact hp _ 0 _ rfl rfl hz rfl)) ?_); (conv => (arg 5; try tactic => exact nrm)))
        | ((first | first | refine AL.acall (g := 31) rfl kr rfl ((by exact hh (by omega) _ 0 _ rfl rfl rfl)) ?_); (conv => (arg 5; try tactic => exact nrm)); (conv => (arg 6; try tactic => exact nrm)))
        | refine AL.nil ?_)
      | ((with_reducible refine AW.on ?_); first
        | refine AW.seq ?_
        | refine AW.skip ?_
        | refine AW.exit ?_
        | refine AW.ret ?_
        | refine AW.block ?_
        | refine AW.region ?_
        | (refine AW.conds rfl (fun hc => ?_) (fun hc => ?_) <;> (try replace hc := nc hc) <;> first | (exfalso; first | contradiction | (first | omega | (simp at hc; done)); done) | skip))
      | ((with_reducible refine FinP.on ?_); (first | refine FinP.ret (.tmp wl (.tmp wl .nil)) ?_ rfl | refine FinP.end (.tmp wl (.tmp wl .nil)) ?_ rfl); (try simp only [pack, List.drop, List.take]); all_goals (rfl)))
theorem Hull_n {m : Mem} {b n c : Nat} {blk : Blk} (l : List Pn) (h0 : cpB l = 0) (hf : flK l (l.length - 2) = true) (hb : m.at b = some blk) (hc : blk.cells = flatP l) (hn : l.length = n) (hz : blk.esz = 0 ∨ blk.esz = 2) (ho : blk.obj = Ob.plain := by rfl) :
    PCalls Try.prog 10 [.slice (some ⟨b, 0, none⟩) n c] m (.tuple #[.slice none 0 0, .int .i64 30]) := by
  subst hn
  exact PCalls.viaS [b] (Hull_n0 l c blk.esz h0 hf hz) (ro1p _ rfl) ⟨⟨_, hb, by unfold Blk.shp Blk.shpR; rw [ho]; rfl, (fun h => nomatch h), .inl ⟨hc, flatP_scal _⟩⟩, trivial⟩ rfl rfl rfl rfl
theorem rHull_y {m : Mem} {b n c : Nat} {blk : Blk} (l : List Pn) (h0 : cpB l = 0) (hf : flK l (l.length - 2) = false) (hb : m.at b = some blk) (hc : blk.cells = flatP l) (hn : l.length = n) (ho : blk.obj = Ob.plain := by rfl) :
    ACalls Try.prog 12 [.slice (some ⟨b, 0, none⟩) n c] m (.slice (some ⟨m.length, 0, none⟩) (hl l).length INF) (m ++ [some ⟨flatO (hl l), true, 1⟩]) := by
  subst hn
  obtain ⟨h40, hok, hap⟩ := cp_ok h0
  have h := ACalls.viaS (m := m) (args := [.slice (some ⟨b, 0, none⟩) l.length c]) (v := .slice (some ⟨m.length, 0, none⟩) (hl l).length INF) [b] [] [some ⟨flatO (hl l), true, 1⟩] (rHull_c l hok (hl l) (hl_ring h0 hf) c blk.esz (by omega) hf) ⟨⟨_, hb, by unfold Blk.shp Blk.shpR; rw [ho]; rfl, (fun h => nomatch h), .inl ⟨hc, flatP_scal _⟩⟩, trivial⟩ (by simp) ⟨⟨_, rfl, rfl⟩, ⟨rfl, rfl, rfl, .inl ⟨rfl, flatO_scal _⟩⟩, trivial⟩ rfl rfl rfl rfl
  exact h
end Go.Proofs.Ytmohcmghbfhdlaa
end
end
/- Chapter 6: the opening of wrong nets. -/
section
set_option linter.unusedSimpArgs false
set_option linter.unusedVariables false
section
namespace Go.Me
open Go.Ab Go.Proofs.Ytmohcmghbfhdlaa
def fstN (f : Nat → Int) : Nat → Int
  | 0 => -1
  | k + 1 => if fstN f k ≠ -1 then fstN f k else if f k ≠ 0 then k else -1
theorem fstN_no {f : Nat → Int} : ∀ n : Nat, (∀ j, j < n → f j = 0) → fstN f n = -1 := by
  intro n
  induction n with
  | zero => intro _; rfl
  | succ n ih =>
    intro h
    unfold fstN
    rw [if_neg (fun h2 => h2 (ih fun j hj => h j (by omega))), if_neg (fun h2 => h2 (h n (by omega)))]
theorem fstN_yes {f : Nat → Int} {k : Nat} (hk : ∀ j, j < k → f j = 0) (he : f k ≠ 0) : ∀ n : Nat, k < n → fstN f n = k := by
  intro n
  induction n with
  | zero => intro h; omega
  | succ n ih =>
    intro h
    rcases Nat.lt_or_eq_of_le (Nat.le_of_lt_succ h) with h | rfl
    · have := ih h
      unfold fstN
      rw [this, if_pos (by omega)]
    · unfold fstN
      rw [if_neg (fun h2 => h2 (fstN_no k hk)), if_pos he]
def lfA (ts : List T3) : List (IE × Int) := lf ts ts.length
def opB (l : List Pn) (ts : List T3) : Bool := (lfA ts).any fun p => decide (lk (lfA ts) (p.1.2, p.1.1) = -1) && !bdB l p.1.1.toNat p.1.2.toNat
def gpB (l : List Pn) (ts : List T3) : Bool := decide (ts.length = 0) || decide (arT l ts ts.length ≠ arS l (hl l) (hl l).length) || decide ((us ts ts.length).length ≠ l.length)
def netE (l : List Pn) (ts : List T3) : Int :=
  if cpB l ≠ 0 then cpB l else if 80 < ts.length then 8 else if fstN (trK l ts) ts.length ≠ -1 then trK l ts (fstN (trK l ts) ts.length).toNat else if opB l ts = true then 25 else if gpB l ts = true then 14 else 0
abbrev mpU (u : List Int) : Blk := @Blk.mk [] true 0 ⟨some (.map (mpE encI (u.map fun k => (k, Value.bool true))) (u.map fun k => (k, Value.bool true)).length)⟩
theorem lf_succ (ts : List T3) (k : Nat) : lf ts (k + 1) = lf ts k ++ [(((tr ts k).1, (tr ts k).2.1), (k : Int))] ++ [(((tr ts k).2.1, (tr ts k).2.2), (k : Int))] ++ [(((tr ts k).2.2, (tr ts k).1), (k : Int))] := rfl
theorem shp_map {κ : Type} {enc : κ → Value} {σ : Nat → Nat} {n : Nat} {A B : List (κ × Value)} (h : A = B) : (mpL enc A).shp = Blk.shpR σ n (mpL enc B) := by subst h; rfl
structure Rnd3 (ts : List T3) (k : Nat) : Prop where
  a1 : ∀ p ∈ lfV (lf ts k), okE p.1
  a2 : ∀ p ∈ lfV (lf ts k) ++ [(((tr ts k).1, (tr ts k).2.1), Value.int .i64 (k : Int))], okE p.1
  a3 : ∀ p ∈ lfV (lf ts k) ++ [(((tr ts k).1, (tr ts k).2.1), Value.int .i64 (k : Int))] ++ [(((tr ts k).2.1, (tr ts k).2.2), Value.int .i64 (k : Int))], okE p.1
  b1 : ((tr ts k).1, (tr ts k).2.1) ∉ (lfV (lf ts k)).map (·.1)
  b2 : ((tr ts k).2.1, (tr ts k).2.2) ∉ (lfV (lf ts k) ++ [(((tr ts k).1, (tr ts k).2.1), Value.int .i64 (k : Int))]).map (·.1)
  b3 : ((tr ts k).2.2, (tr ts k).1) ∉ (lfV (lf ts k) ++ [(((tr ts k).1, (tr ts k).2.1), Value.int .i64 (k : Int))] ++ [(((tr ts k).2.1, (tr ts k).2.2), Value.int .i64 (k : Int))]).map (·.1)
  o1 : okE ((tr ts k).1, (tr ts k).2.1)
  o2 : okE ((tr ts k).2.1, (tr ts k).2.2)
  o3 : okE ((tr ts k).2.2, (tr ts k).1)
  c : lfV (lf ts k) ++ [(((tr ts k).1, (tr ts k).2.1), Value.int .i64 (k : Int))] ++ [(((tr ts k).2.1, (tr ts k).2.2), Value.int .i64 (k : Int))] ++ [(((tr ts k).2.2, (tr ts k).1), Value.int .i64 (k : Int))] = lfV (lf ts (k + 1))
theorem rnd3 {l : List Pn} {ts : List T3} {k : Nat} (hl : l.length ≤ 1000) (h : LfOk l.length (lf ts k)) (he : trK l ts k = 0) : Rnd3 ts k := by
  obtain ⟨h1, h2, h3, h4⟩ := lf_step h he
  have e1 : lfV (lf ts k) ++ [(((tr ts k).1, (tr ts k).2.1), Value.int .i64 (k : Int))] = lfV (lf ts k ++ [(((tr ts k).1, (tr ts k).2.1), (k : Int))]) := by rw [lfV_app]; rfl
  have e2 : lfV (lf ts k) ++ [(((tr ts k).1, (tr ts k).2.1), Value.int .i64 (k : Int))] ++ [(((tr ts k).2.1, (tr ts k).2.2), Value.int .i64 (k : Int))] = lfV (lf ts k ++ [(((tr ts k).1, (tr ts k).2.1), (k : Int))] ++ [(((tr ts k).2.1, (tr ts k).2.2), (k : Int))]) := by rw [lfV_app, lfV_app]; rfl
  have e3 : lfV (lf ts k) ++ [(((tr ts k).1, (tr ts k).2.1), Value.int .i64 (k : Int))] ++ [(((tr ts k).2.1, (tr ts k).2.2), Value.int .i64 (k : Int))] ++ [(((tr ts k).2.2, (tr ts k).1), Value.int .i64 (k : Int))] = lfV (lf ts (k + 1)) := by rw [lf_succ, lfV_app, lfV_app, lfV_app]; rfl
  have hall := h4.okE hl
  have hA : ∀ X : List (IE × Int), (∀ p ∈ X, p ∈ lf ts (k + 1)) → ∀ p ∈ lfV X, okE p.1 := fun X hX p hp => by
    obtain ⟨q, hq, rfl⟩ := List.mem_map.1 hp
    exact hall q (hX q hq)
  have hin : ∀ q, q ∈ lf ts (k + 1) ↔ ((q ∈ lf ts k ∨ q = (((tr ts k).1, (tr ts k).2.1), (k : Int))) ∨ q = (((tr ts k).2.1, (tr ts k).2.2), (k : Int))) ∨ q = (((tr ts k).2.2, (tr ts k).1), (k : Int)) := fun q => by
    rw [lf_succ]
    simp only [List.mem_append, List.mem_singleton]
  refine ⟨hA _ fun p hp => (hin p).2 (.inl (.inl (.inl hp))), ?_, ?_, by rw [lfV_keys]; exact h1, by rw [e1, lfV_keys]; exact h2, by rw [e2, lfV_keys]; exact h3, hall (((tr ts k).1, (tr ts k).2.1), (k : Int)) ((hin _).2 (.inl (.inl (.inr rfl)))), hall (((tr ts k).2.1, (tr ts k).2.2), (k : Int)) ((hin _).2 (.inl (.inr rfl))), hall (((tr ts k).2.2, (tr ts k).1), (k : Int)) ((hin _).2 (.inr rfl)), e3⟩
  · rw [e1]
    refine hA _ fun p hp => (hin p).2 (.inl (.inl ?_))
    simpa only [List.mem_append, List.mem_singleton] using hp
  · rw [e2]
    refine hA _ fun p hp => (hin p).2 (.inl ?_)
    simpa only [List.mem_append, List.mem_singleton] using hp
theorem hl_lt {l : List Pn} (h : cpB l = 0) : ∀ k, k < (hl l).length → ot (hl l) k < l.length := fun k hk =>
  ((ordL_sorted (cp_ok h).2.2).mem _).1 (hullI_sub l _ _ (List.mem_of_getElem? (ot_lt hk)))
end Go.Me
namespace Go.Proofs.Ytmohcmghbfhdlaa
open Go Go.RowKit Go.Ab Go.Me
set_option maxRecDepth 100000
set_option maxHeartbeats 4000000
attribute [local irreducible] OQ OW AL AW AD AF SW
end Go.Proofs.Ytmohcmghbfhdlaa
end
end
/- Chapter 6: the opening of nets that are not right. -/
section
set_option linter.unusedSimpArgs false
set_option linter.unusedVariables false
section
namespace Go.Me
open Go.Ab Go.Proofs.Ytmohcmghbfhdlaa
theorem le_nodup {α : Type} [BEq α] [LawfulBEq α] : ∀ (l ps : List α), l.Nodup → (∀ y ∈ l, y ∈ ps) → l.length ≤ ps.length
  | [], _, _, _ => Nat.zero_le _
  | x :: l, ps, hn, h => by
    have hx := h x (by simp)
    have hn' := List.nodup_cons.1 hn
    have := le_nodup l (ps.erase x) hn'.2 fun y hy => (List.mem_erase_of_ne (fun e => hn'.1 (by rw [← e]; exact hy))).2 (h y (List.mem_cons_of_mem _ hy))
    rw [List.length_erase_of_mem hx] at this
    have : 0 < ps.length := List.length_pos_of_mem hx
    simp only [List.length_cons]
    omega
theorem seen_le {n : Nat} {seen : List Nat} (hn : seen.Nodup) (h : ∀ j ∈ seen, j < n) : seen.length ≤ n := by
  have := le_nodup seen (List.range n) hn fun y hy => List.mem_range.2 (h y hy)
  rwa [List.length_range] at this
theorem seen_snoc {j : Nat} {seen : List Nat} (hn : seen.Nodup) (hj : j ∉ seen) : (seen ++ [j]).Nodup := by
  rw [List.nodup_append]
  refine ⟨hn, by simp, fun a ha b hb e => ?_⟩
  rw [List.mem_singleton] at hb
  subst hb
  subst e
  exact hj ha
theorem tri_bd {l : List Pn} {ts : List T3} {k : Nat} (hok : ∀ k, k < l.length → (pt l k).Ok) (h : trK l ts k = 0) : -800000000 ≤ arS l [(tr ts k).1.toNat, (tr ts k).2.1.toNat, (tr ts k).2.2.toNat] 3 ∧ arS l [(tr ts k).1.toNat, (tr ts k).2.1.toNat, (tr ts k).2.2.toNat] 3 ≤ 800000000 := by
  obtain ⟨h1, _⟩ := trK_0 h
  unfold inR at h1
  rw [arS_3]
  have := cr_bd (hok (tr ts k).1.toNat (by omega)) (hok (tr ts k).2.1.toNat (by omega)) (hok (tr ts k).2.2.toNat (by omega))
  unfold cr
  omega
theorem arT_bd {l : List Pn} {ts : List T3} (hok : ∀ k, k < l.length → (pt l k).Ok) : ∀ k, (∀ j, j < k → trK l ts j = 0) → -(800000000 * (k : Int)) ≤ arT l ts k ∧ arT l ts k ≤ 800000000 * (k : Int)
  | 0, _ => by unfold arT; omega
  | k + 1, h => by
    have := arT_bd hok k fun j hj => h j (by omega)
    have := tri_bd hok (h k (by omega))
    unfold arT
    omega
theorem lfV_get {n : Nat} {L : List (IE × Int)} (h : LfOk n L) {j : Nat} {kk : IE} {v : Value} (hj : (lfV L)[j]? = some (kk, v)) : j < L.length ∧ (∃ i : Int, v = .int .i64 i ∧ (kk, i) ∈ L) ∧ (0 ≤ kk.1 ∧ kk.1 < n) ∧ (0 ≤ kk.2 ∧ kk.2 < n) := by
  unfold lfV at hj
  rw [List.getElem?_map] at hj
  cases hq : L[j]? with
  | none => rw [hq] at hj; cases hj
  | some p =>
    rw [hq] at hj
    cases hj
    have hm := List.mem_of_getElem? hq
    have := h.rng p hm
    exact ⟨(List.getElem?_eq_some_iff.1 hq).1, ⟨p.2, rfl, hm⟩, this.1, this.2.1⟩
theorem lfV_flat (L : List (IE × Int)) : ∀ p ∈ lfV L, Ab.flat1 p.2 = true := fun p hp => by
  obtain ⟨q, _, rfl⟩ := List.mem_map.1 hp
  rfl
theorem lfV_len (L : List (IE × Int)) : (lfV L).length = L.length := List.length_map _
theorem opB_yes {l : List Pn} {ts : List T3} {kk : IE} {i : Int} (hm : (kk, i) ∈ lfA ts) (h1 : lk (lfA ts) (kk.2, kk.1) = -1) (h2 : bdB l kk.1.toNat kk.2.toNat = false) : opB l ts = true := by
  unfold opB
  rw [List.any_eq_true]
  exact ⟨_, hm, by simp only; rw [h1, h2]; rfl⟩
end Go.Me
end
section
namespace Go.Me
open Go.Ab Go.Proofs.Ytmohcmghbfhdlaa
theorem hl_le {l : List Pn} (h : cpB l = 0) : (hl l).length ≤ 1000 := by
  have h40 := (cp_ok h).1
  have e : (hl l).length = _ := congrArg List.length (hullI_ou l (ordL l))
  have h1 := ouK_le (l := l) (o := ordL l) (ordL l).length
  have h2 := ouK_le (l := l) (o := (ordL l).reverse) (ordL l).length
  rw [List.length_reverse] at h2
  rw [ordL_len] at h1 h2
  rw [e, List.length_append, List.length_take, List.length_take, ordL_len]
  omega
theorem two_of {l : List Pn} {ts : List T3} (hall : ∀ j, j < ts.length → trK l ts j = 0) (h : 0 < ts.length) : 2 ≤ l.length := by
  obtain ⟨h1, h2, _⟩ := trK_0 (hall 0 h)
  unfold inR at h1
  unfold ordB at h2
  omega
end Go.Me
end
end
/- Chapter 6: the opening of nets with a wrong triangle. -/
section
set_option linter.unusedSimpArgs false
set_option linter.unusedVariables false
section
namespace Go.Proofs.Ytmohcmghbfhdlaa
open Go Go.RowKit Go.Ab Go.Me
set_option maxRecDepth 100000
set_option maxHeartbeats 4000000
attribute [local irreducible] OQ OW AL AW AD AF SW
end Go.Proofs.Ytmohcmghbfhdlaa
end
end
/- Chapter 6: the opening of nets with a point beyond an edge. -/
section
set_option linter.unusedSimpArgs false
set_option linter.unusedVariables false
section
namespace Go.Proofs.Ytmohcmghbfhdlaa
open Go Go.RowKit Go.Ab Go.Me
set_option maxRecDepth 100000
set_option maxHeartbeats 4000000
attribute [local irreducible] OQ OW AL AW AD AF SW
end Go.Proofs.Ytmohcmghbfhdlaa
end
end
/- Chapter 6: the opening of nets that do not cover. -/
section
set_option linter.unusedSimpArgs false
set_option linter.unusedVariables false
section
namespace Go.Proofs.Ytmohcmghbfhdlaa
open Go Go.RowKit Go.Ab Go.Me
set_option maxRecDepth 100000
set_option maxHeartbeats 4000000
attribute [local irreducible] OQ OW AL AW AD AF SW
end Go.Proofs.Ytmohcmghbfhdlaa
end
end
/- Chapter 6: the edges of a net, in order. -/
section
set_option linter.unusedSimpArgs false
set_option linter.unusedVariables false
section
namespace Go.Me
open Go.Ab Go.Proofs.Ytmohcmghbfhdlaa
def pkE (L : List (IE × Int)) (p : IE) : List Pn := if p.1 < p.2 ∨ lk L (p.2, p.1) = -1 then [⟨if p.2 < p.1 then p.2 else p.1, if p.2 > p.1 then p.2 else p.1⟩] else []
def pk (ts : List T3) (j : Nat) : List Pn := match (lfA ts)[j]? with
  | none => []
  | some p => pkE (lfA ts) p.1
def eqS (ts : List T3) (seen : List Nat) : List Pn := seen.flatMap (pk ts)
theorem eqS_snoc (ts : List T3) (seen : List Nat) (j : Nat) : eqS ts (seen ++ [j]) = eqS ts seen ++ pk ts j := by
  unfold eqS
  rw [List.flatMap_append]
  simp
theorem pk_at {ts : List T3} {j : Nat} {kk : IE} {v : Value} (hj : (lfV (lfA ts))[j]? = some (kk, v)) : pk ts j = pkE (lfA ts) kk := by
  unfold lfV at hj
  rw [List.getElem?_map] at hj
  unfold pk
  cases hq : (lfA ts)[j]? with
  | none => rw [hq] at hj; cases hj
  | some p =>
    rw [hq] at hj
    cases hj
    rfl
def sortE (es : List Pn) : List Pn := es.mergeSort fun x y => !decide (ordP y x < 0)
theorem sortE_perm (es : List Pn) : (sortE es).Perm es := List.mergeSort_perm _ _
theorem sortE_len (es : List Pn) : (sortE es).length = es.length := List.length_mergeSort _
theorem sortE_pair (es : List Pn) : (sortE es).Pairwise fun x y => ¬ lexLt y x := by
  have h := List.pairwise_mergeSort (le := fun x y => !decide (ordP y x < 0)) (l := es) (fun a b c h1 h2 => by
    simp only [Bool.not_eq_true', decide_eq_false_iff_not, ordP_neg] at h1 h2 ⊢
    unfold lexLt at *
    omega) (fun a b => by
    simp only [Bool.or_eq_true, Bool.not_eq_true', decide_eq_false_iff_not, ordP_neg]
    unfold lexLt
    omega)
  refine h.imp fun {a b} hab => ?_
  simpa only [Bool.not_eq_true', decide_eq_false_iff_not, ordP_neg] using hab
theorem sorted_uniq {xs ys : List Pn} (h : xs.Perm ys) (h1 : xs.Pairwise fun x y => ¬ lexLt y x) (h2 : ys.Pairwise fun x y => ¬ lexLt y x) : xs = ys := by
  refine List.Perm.eq_of_pairwise (le := fun x y => ¬ lexLt y x) ?_ h1 h2 h
  intro a b _ _ h3 h4
  apply Classical.byContradiction
  intro h5
  rcases lexLt_or h5 with h6 | h6
  · exact h4 h6
  · exact h3 h6
theorem sortE_eq {xs ys : List Pn} (h : xs.Perm ys) : sortE xs = sortE ys :=
  sorted_uniq (((sortE_perm xs).trans h).trans (sortE_perm ys).symm) (sortE_pair xs) (sortE_pair ys)
def edL (ts : List T3) : List Pn := sortE (eqS ts (List.range (lfA ts).length))
theorem eqS_all {ts : List T3} {seen : List Nat} (hn : seen.Nodup) (h1 : ∀ j ∈ seen, j < (lfA ts).length) (h2 : ∀ j, j < (lfA ts).length → j ∈ seen) : sortE (eqS ts seen) = edL ts := by
  refine sortE_eq ?_
  have hp : seen.Perm (List.range (lfA ts).length) := (List.perm_ext_iff_of_nodup hn List.nodup_range).2 fun a => ⟨fun h => List.mem_range.2 (h1 a h), fun h => h2 a (List.mem_range.1 h)⟩
  exact hp.flatMap_right _
theorem lfA_len {ts : List T3} : ∀ k, (lf ts k).length = 3 * k
  | 0 => rfl
  | k + 1 => by
    rw [lf_succ, List.length_append, List.length_append, List.length_append, lfA_len k]
    simp only [List.length_cons, List.length_nil]
    omega
theorem lf_first {ts : List T3} : ∀ k, 0 < k → (lf ts k)[0]? = some (((tr ts 0).1, (tr ts 0).2.1), 0)
  | 0, h => absurd h (by decide)
  | 1, _ => rfl
  | k + 2, _ => by
    rw [lf_succ, List.append_assoc, List.append_assoc, List.getElem?_append_left (by rw [lfA_len]; omega)]
    exact lf_first (k + 1) (by omega)
theorem eqS_pos {l : List Pn} {ts : List T3} {seen : List Nat} (hall : ∀ j, j < ts.length → trK l ts j = 0) (h0 : 0 < ts.length) (h2 : ∀ j, j < (lfA ts).length → j ∈ seen) : eqS ts seen ≠ [] := fun h => by
  have hm := h2 0 (by unfold lfA; rw [lfA_len]; omega)
  unfold eqS at h
  rw [List.flatMap_eq_nil_iff] at h
  have h3 := h 0 hm
  unfold pk at h3
  unfold lfA at h3
  rw [lf_first _ h0] at h3
  simp only at h3
  unfold pkE at h3
  obtain ⟨_, h4, _⟩ := trK_0 (hall 0 h0)
  unfold ordB at h4
  rw [if_pos (.inl (by simp only; omega))] at h3
  cases h3
theorem eqS_le {ts : List T3} {seen : List Nat} : (eqS ts seen).length ≤ seen.length := by
  unfold eqS
  induction seen with
  | nil => exact Nat.le_refl _
  | cons j r ih =>
    rw [List.flatMap_cons, List.length_append, List.length_cons]
    have : (pk ts j).length ≤ 1 := by
      unfold pk
      split
      · exact Nat.zero_le _
      · unfold pkE
        split
        · exact Nat.le_refl _
        · exact Nat.zero_le _
    omega
end Go.Me
namespace Go.Proofs.Ytmohcmghbfhdlaa
open Go Go.RowKit Go.Ab Go.Me Go.Sort
set_option maxRecDepth 100000
set_option maxHeartbeats 4000000
attribute [local irreducible] OQ OW AL AW AD AF SW
instance : Inhabited Pn := ⟨⟨0, 0⟩⟩
theorem sortE_q {m : Mem} {b n c z : Nat} (es : List Pn) (hn : es.length = n) (h0 : 0 < n) (hl : n ≤ 100000) (hb : m.at b = some ⟨flatP es, true, z⟩) :
    ACalls Try.prog 62 [.slice (some ⟨b, 0, none⟩) n c, .func (.func 63) #[] #[]] m (.tuple #[]) (m.set b (some ⟨flatP (sortE es), true, z⟩)) := by
  have e : flatP es = es.flatMap fun p : Pn => [.int .i64 p.x, .int .i64 p.y] := rfl
  have h := ACalls.sortK (g := 63) (capA := #[]) (z := z) (c := c) Try.laysK6 2 (by kernel_rfl) (by kernel_rfl) (fun p : Pn => [.int .i64 p.x, .int .i64 p.y]) (fun _ => rfl) (fun x v hv => by
    simp only [List.mem_cons, List.not_mem_nil, or_false] at hv
    rcases hv with rfl | rfl <;> rfl) (fun _ => rfl) (fun x y => ordP x y) (swo_ord fun x : Pn => x) (fun x y h1 h2 => by
    simp only [ltOf, decide_eq_false_iff_not] at h1 h2
    exact ordP_tie h1 h2) (by kernel_rfl) es hn h0 (by omega) hb (CmpQ.of (fun _ _ => rfl) fun x y => byEdges_q x.x x.y y.x y.y _)
  exact h
theorem ro5p (a b c d e : Blk) (h1 : a.own = false) (h2 : b.own = false) (h3 : c.own = false) (h4 : d.own = false) (h5 : e.own = false) : Mem.ro [some a, some b, some c, some d, some e] := fun k blk hk => by
  match k, hk with
  | 0, hk => cases hk; exact h1
  | 1, hk => cases hk; exact h2
  | 2, hk => cases hk; exact h3
  | 3, hk => cases hk; exact h4
  | 4, hk => cases hk; exact h5
theorem at_1 (A B D : Blk) (hA : A.own = false) (hB : B.own = false) (hD : D.own = false) (n c k c2 z : Nat) (ev : Value) (L : List (IE × Int)) (hn : (L.map (·.1)).Nodup) (hL : ∀ p ∈ L, okE p.1) (a b : Int) (hab : okE (a, b)) :
    PCalls Try.prog 59 [.pointer (some ⟨2, 0, none⟩), .int .i64 a, .int .i64 b] [some A, some B, some ⟨netC n c k c2 ev, false, z⟩, some (mpR encE (lfV L)), some D] (.int .i64 (lk L (a, b))) := by
  have hk2 := lfV_keys L
  have hL2 : ∀ p ∈ lfV L, okE p.1 := fun p hp => by
    obtain ⟨x, hx, rfl⟩ := List.mem_map.1 hp
    exact hL x hx
  unfold netC
  by_cases he : (a, b) ∈ L.map (·.1)
  · have hm := lfV_mem he
    refine PCalls.enter (t := [.pointer (some ⟨2, 0, none⟩), .int .i64 a, .int .i64 b, undef, undef, undef, undef, undef, undef, undef, undef, undef, undef, undef, undef, undef, undef, undef, undef, undef, undef, undef]) Try.func59 rfl (ro5p _ _ _ _ _ hA hB rfl rfl hD) rfl fun E => ?_
    repeat' (first
      | with_reducible refine Then.n ?_
      | with_reducible refine Then.r ?_
      | with_reducible refine Then.x ?_
      | with_reducible refine InB.n ?_
      | with_reducible refine InB.r ?_
      | with_reducible refine InB.hit ?_
      | with_reducible refine InB.miss (by decide) ?_
      | ((with_reducible refine AL.on ?_); first
        | ((first | ((with_reducible refine AL.k_move ?_); first | (refine AL.q rfl (OQ.move wl) ?_)) | ((with_reducible refine AL.k_assign ?_); first | (refine AL.q rfl (OQ.assign wl) ?_)) | ((with_reducible refine AL.k_extract ?_); first | refine AL.q rfl (OQ.extract rfl rfl) ?_) | ((with_reducible refine AL.k_fieldAddr ?_); first | refine AL.q rfl (OQ.fieldA (ty := 74) (i := 2) (n := 1) (off := 3) (g := false) rfl kr (by decide)) ?_) | ((with_reducible refine AL.k_load ?_); first | (refine AL.q rfl (OQ.load1 (ty := 72) rfl kr wl) ?_)) | refine AL.q rfl (OQ.nilCheck rfl) ?_ | (refine AL.q rfl (OQ.mlookS (k := (a, b)) KE hab hL2 rfl rfl Try.underlying72 rfl (by rw [hk2]; exact hn) hm rfl).1 ?_)); (conv => (arg 5; try tactic => exact nrm)))
        | ((first | first | refine AL.q rfl (OQ.buildA (ty := 45) (zs := [.int .i64 0, .int .i64 0]) (n := 1) (k := 2) (g := false) kr rfl kr rfl rfl rfl) ?_); (conv => (arg 5; try tactic => exact nrm)))
        | refine AL.nil ?_)
      | ((with_reducible refine AW.on ?_); first
        | refine AW.seq ?_
        | refine AW.skip ?_
        | refine AW.exit ?_
        | refine AW.ret ?_
        | refine AW.block ?_
        | refine AW.region ?_
        | (refine AW.conds rfl (fun hc => ?_) (fun hc => ?_) <;> (try replace hc := nc hc) <;> first | (exfalso; first | contradiction | (first | omega | (simp at hc; done)); done) | skip))
      | ((with_reducible refine FinP.on ?_); (first | refine FinP.ret (.tmp wl .nil) ?_ rfl | refine FinP.end (.tmp wl .nil) ?_ rfl); (try simp only [pack, List.drop, List.take]); all_goals (rfl)))
  · have hl := lk_not he
    rw [hl]
    refine PCalls.enter (t := [.pointer (some ⟨2, 0, none⟩), .int .i64 a, .int .i64 b, undef, undef, undef, undef, undef, undef, undef, undef, undef, undef, undef, undef, undef, undef, undef, undef, undef, undef, undef]) Try.func59 rfl (ro5p _ _ _ _ _ hA hB rfl rfl hD) rfl fun E => ?_
    repeat' (first
      | with_reducible refine Then.n ?_
      | with_reducible refine Then.r ?_
      | with_reducible refine Then.x ?_
      | with_reducible refine InB.n ?_
      | with_reducible refine InB.r ?_
      | with_reducible refine InB.hit ?_
      | with_reducible refine InB.miss (by decide) ?_
      | ((with_reducible refine AL.on ?_); first
        | ((first | ((with_reducible refine AL.k_move ?_); first | (refine AL.q rfl (OQ.move wl) ?_)) | ((with_reducible refine AL.k_assign ?_); first | (refine AL.q rfl (OQ.assign wl) ?_)) | ((with_reducible refine AL.k_extract ?_); first | refine AL.q rfl (OQ.extract rfl rfl) ?_) | ((with_reducible refine AL.k_fieldAddr ?_); first | refine AL.q rfl (OQ.fieldA (ty := 74) (i := 2) (n := 1) (off := 3) (g := false) rfl kr (by decide)) ?_) | ((with_reducible refine AL.k_load ?_); first | (refine AL.q rfl (OQ.load1 (ty := 72) rfl kr wl) ?_)) | refine AL.q rfl (OQ.nilCheck rfl) ?_ | (refine AL.q rfl (OQ.mlookN (k := (a, b)) (v := .int .i64 0) KE hab hL2 rfl rfl Try.underlying72 rfl (by rw [hk2]; exact he) (fun w => by kernel_rfl) rfl).1 ?_)); (conv => (arg 5; try tactic => exact nrm)))
        | ((first | first | refine AL.q rfl (OQ.buildA (ty := 45) (zs := [.int .i64 0, .int .i64 0]) (n := 1) (k := 2) (g := false) kr rfl kr rfl rfl rfl) ?_); (conv => (arg 5; try tactic => exact nrm)))
        | refine AL.nil ?_)
      | ((with_reducible refine AW.on ?_); first
        | refine AW.seq ?_
        | refine AW.skip ?_
        | refine AW.exit ?_
        | refine AW.ret ?_
        | refine AW.block ?_
        | refine AW.region ?_
        | (refine AW.conds rfl (fun hc => ?_) (fun hc => ?_) <;> (try replace hc := nc hc) <;> first | (exfalso; first | contradiction | (first | omega | (simp at hc; done)); done) | skip))
      | ((with_reducible refine FinP.on ?_); (first | refine FinP.ret (.tmp wl .nil) ?_ rfl | refine FinP.end (.tmp wl .nil) ?_ rfl); (try simp only [pack, List.drop, List.take]); all_goals (rfl)))
theorem at_e {m : Mem} {bP bT bN bL bE n c k c2 ne : Nat} {A B N D : Blk} {own : Bool} {z : Nat} (l : List Pn) (ts : List T3) (es : List Pn) (L : List (IE × Int)) (hn : (L.map (·.1)).Nodup) (hL : ∀ p ∈ L, okE p.1) (a b : Int) (hab : okE (a, b))
    (hP : m.at bP = some A) (hPc : A.cells = flatP l) (hT : m.at bT = some B) (hTc : B.cells = flatT ts) (hN : m.at bN = some N) (hNc : N.cells = [.slice (some ⟨bP, 0, none⟩) n c, .slice (some ⟨bT, 0, none⟩) k c2, .slice (some ⟨bE, 0, none⟩) ne INF, .map (some bL)])
    (hM : m.at bL = some (mpX L own z)) (hz : z = 0) (hD : m.at bE = some D) (hDc : D.cells = flatP es) (hPo : A.obj = Ob.plain := by rfl) (hTo : B.obj = Ob.plain := by rfl) (hNo : N.obj = Ob.plain := by rfl) (hDo : D.obj = Ob.plain := by rfl) :
    PCalls Try.prog 59 [.pointer (some ⟨bN, 0, none⟩), .int .i64 a, .int .i64 b] m (.int .i64 (lk L (a, b))) := by
  subst hz
  exact PCalls.viaS [bP, bT, bN, bL, bE] (at_1 ⟨flatP l, false, A.esz⟩ ⟨flatT ts, false, B.esz⟩ ⟨flatP es, false, D.esz⟩ rfl rfl rfl n c k c2 N.esz (.slice (some ⟨4, 0, none⟩) ne INF) L hn hL a b hab) (ro5p _ _ _ _ _ rfl rfl rfl rfl rfl)
    ⟨⟨_, hP, by unfold Blk.shp Blk.shpR; rw [hPo]; rfl, (fun h => nomatch h), .inl ⟨hPc, flatP_scal _⟩⟩, ⟨_, hT, by unfold Blk.shp Blk.shpR; rw [hTo]; rfl, (fun h => nomatch h), .inl ⟨hTc, flatT_scal _⟩⟩, ⟨_, hN, by unfold Blk.shp Blk.shpR; rw [hNo]; rfl, (fun h => nomatch h), .inr ⟨hNc, rfl⟩⟩, ⟨_, hM, rfl, (fun h => nomatch h), .inl ⟨rfl, rfl⟩⟩, ⟨_, hD, by unfold Blk.shp Blk.shpR; rw [hDo]; rfl, (fun h => nomatch h), .inl ⟨hDc, flatP_scal _⟩⟩, trivial⟩ rfl rfl rfl rfl
end Go.Proofs.Ytmohcmghbfhdlaa
end
end
