/- Chapter 6: the examples' nets (the law's). -/
import Derived.Test.YtmohcmghbfhdlaaQc
import Derived.Test.YtmohcmghbfhdlaaQk
import Derived.Test.YtmohcmghbfhdlaaQe
import Derived.Test.YtmohcmghbfhdlaaQi
import Derived.Test.YtmohcmghbfhdlaaQd
import Derived.Test.YtmohcmghbfhdlaaProg
section
set_option linter.unusedSimpArgs false
set_option linter.unusedVariables false
section
namespace Go.Me
open Go.Ab Go.Proofs.Ytmohcmghbfhdlaa
def sqp : List Pn := [⟨0, 0⟩, ⟨4, 0⟩, ⟨4, 4⟩, ⟨0, 4⟩, ⟨1, 2⟩]
def sqt : List T3 := [(0, 1, 4), (0, 4, 3), (1, 2, 4), (2, 3, 4)]
end Go.Me
namespace Go.Proofs.Ytmohcmghbfhdlaa
open Go Go.RowKit Go.Ab Go.Me
set_option maxRecDepth 100000
set_option maxHeartbeats 4000000
attribute [local irreducible] OQ OW AL AW AD AF SW
theorem Square_y : ACalls Try.prog 24 [] [] (.agg #[.slice (some ⟨0, 0, none⟩) 5 5, .slice (some ⟨1, 0, none⟩) 4 4]) [some ⟨flatP sqp, true, 2⟩, some ⟨flatT sqt, true, 3⟩] := by
  refine ACalls.enter (t := [undef, undef, undef, undef, undef, undef, undef, undef, undef, undef, undef, undef, undef]) Try.func24 rfl rfl fun E hE => ?_
  repeat' (first
    | with_reducible (first | refine Then.n ?_ | refine Then.r ?_ | refine Then.x ?_ | refine InB.n ?_ | refine InB.r ?_ | refine InB.hit ?_ | refine InB.miss (by decide) ?_)
    | ((with_reducible refine AL.on ?_); first
      | ((first | first | refine AL.q rfl (OQ.buildS (ty := 47) (zs := [.int .i64 0, .int .i64 0]) (pls := [(0, 1), (1, 1)]) kr rfl kr rfl rfl rfl) ?_ | refine AL.q rfl (OQ.buildA (ty := 79) (zs := [.int .i64 0, .int .i64 0, .int .i64 0]) (n := 1) (k := 3) (g := false) kr rfl kr rfl rfl rfl) ?_ | refine AL.q rfl (OQ.buildS (ty := 38) (zs := [.slice none 0 0, .slice none 0 0]) (pls := [(0, 1), (1, 1)]) kr rfl kr rfl rfl rfl) ?_); (refine AL.nm ?_))
      | ((first | ((with_reducible refine AL.k_buildSlice ?_); first | refine AL.w rfl (OW.buildSl (ty := 22) (zs := [.int .i64 0, .int .i64 0]) (n := 2) (g := true) kr kr rfl rfl rfl (by decide) (by decide) rfl rfl) ?_ | refine AL.w rfl (OW.buildSl (ty := 36) (zs := [.int .i64 0, .int .i64 0, .int .i64 0]) (n := 3) (g := true) kr kr rfl rfl rfl (by decide) (by decide) rfl rfl) ?_) | ((with_reducible refine AL.k_alloc ?_); first | refine AL.w rfl (OW.alloc (ty := 38) (z := [.slice none 0 0, .slice none 0 0]) kr rfl) ?_) | ((with_reducible refine AL.k_store ?_); first | (refine AL.w rfl (OW.store (ty := 38) (n := 2) rfl wl rfl rfl kr rfl rfl (by decide) rfl (Nat.le_of_ble_eq_true rfl) (by intro r h; cases h)) ?_))); (refine AL.nm ?_); (refine AL.nM ?_))
      | refine AL.nil ?_)
    | ((with_reducible refine AW.on ?_); first
      | refine AW.seq ?_
      | refine AW.skip ?_
      | refine AW.exit ?_
      | refine AW.ret ?_
      | refine AW.block ?_
      | refine AW.region ?_
      | (refine AW.conds rfl (fun hc => ?_) (fun hc => ?_) <;> (try replace hc := nc hc) <;> first | (exfalso; first | contradiction | (first | omega | (simp at hc; done)); done) | skip))
    | ((with_reducible refine FinA.on ?_); (refine FinA.keep 0 [1, 2] (.inl rfl) (.cellN (n := 2) wl kr kr rfl .nil) ?_ rfl (Nat.le_of_eq hE) rfl rfl ⟨⟨_, rfl, rfl, rfl, .inl ⟨rfl, rfl⟩⟩, ⟨_, rfl, rfl, rfl, .inl ⟨rfl, rfl⟩⟩, trivial⟩; rfl)))
theorem Corner_y : ACalls Try.prog 26 [] [] (.agg #[.slice (some ⟨0, 0, none⟩) 3 3, .slice (some ⟨1, 0, none⟩) 1 1, .slice (some ⟨2, 0, none⟩) 3 3, .slice (some ⟨3, 0, none⟩) 3 3]) [some ⟨flatP l0, true, 2⟩, some ⟨flatT ts0, true, 3⟩, some ⟨flatN ph0, true, 1⟩, some ⟨flatN cs0, true, 1⟩] := by
  refine ACalls.enter (t := [undef, undef, undef, undef, undef, undef, undef, undef, undef, undef, undef]) Try.func26 rfl rfl fun E hE => ?_
  repeat' (first
    | with_reducible (first | refine Then.n ?_ | refine Then.r ?_ | refine Then.x ?_ | refine InB.n ?_ | refine InB.r ?_ | refine InB.hit ?_ | refine InB.miss (by decide) ?_)
    | ((with_reducible refine AL.on ?_); first
      | ((first | first | refine AL.q rfl (OQ.buildS (ty := 47) (zs := [.int .i64 0, .int .i64 0]) (pls := [(0, 1), (1, 1)]) kr rfl kr rfl rfl rfl) ?_ | refine AL.q rfl (OQ.buildA (ty := 79) (zs := [.int .i64 0, .int .i64 0, .int .i64 0]) (n := 1) (k := 3) (g := false) kr rfl kr rfl rfl rfl) ?_ | refine AL.q rfl (OQ.buildS (ty := 38) (zs := [.slice none 0 0, .slice none 0 0]) (pls := [(0, 1), (1, 1)]) kr rfl kr rfl rfl rfl) ?_ | refine AL.q rfl (OQ.buildS (ty := 59) (zs := [.slice none 0 0, .slice none 0 0, .slice none 0 0, .slice none 0 0]) (pls := [(0, 2), (2, 1), (3, 1)]) kr rfl kr rfl rfl rfl) ?_); (refine AL.nm ?_))
      | ((first | ((with_reducible refine AL.k_buildSlice ?_); first | refine AL.w rfl (OW.buildSl (ty := 22) (zs := [.int .i64 0, .int .i64 0]) (n := 2) (g := true) kr kr rfl rfl rfl (by decide) (by decide) rfl rfl) ?_ | refine AL.w rfl (OW.buildSl (ty := 36) (zs := [.int .i64 0, .int .i64 0, .int .i64 0]) (n := 3) (g := true) kr kr rfl rfl rfl (by decide) (by decide) rfl rfl) ?_ | refine AL.w rfl (OW.buildSl (ty := 29) (zs := [.int .i64 0]) (n := 1) (g := false) kr kr rfl rfl rfl (by decide) (by decide) rfl rfl) ?_) | ((with_reducible refine AL.k_alloc ?_); first | refine AL.w rfl (OW.alloc (ty := 59) (z := [.slice none 0 0, .slice none 0 0, .slice none 0 0, .slice none 0 0]) kr rfl) ?_) | ((with_reducible refine AL.k_store ?_); first | (refine AL.w rfl (OW.store (ty := 59) (n := 4) rfl wl rfl rfl kr rfl rfl (by decide) rfl (Nat.le_of_ble_eq_true rfl) (by intro r h; cases h)) ?_))); (refine AL.nm ?_); (refine AL.nM ?_))
      | refine AL.nil ?_)
    | ((with_reducible refine AW.on ?_); first
      | refine AW.seq ?_
      | refine AW.skip ?_
      | refine AW.exit ?_
      | refine AW.ret ?_
      | refine AW.block ?_
      | refine AW.region ?_
      | (refine AW.conds rfl (fun hc => ?_) (fun hc => ?_) <;> (try replace hc := nc hc) <;> first | (exfalso; first | contradiction | (first | omega | (simp at hc; done)); done) | skip))
    | ((with_reducible refine FinA.on ?_); (refine FinA.keep 0 [1, 2, 3, 4] (.inl rfl) (.cellN (n := 4) wl kr kr rfl .nil) ?_ rfl (Nat.le_of_eq hE) rfl rfl ⟨⟨_, rfl, rfl, rfl, .inl ⟨rfl, rfl⟩⟩, ⟨_, rfl, rfl, rfl, .inl ⟨rfl, rfl⟩⟩, ⟨_, rfl, rfl, rfl, .inl ⟨rfl, rfl⟩⟩, ⟨_, rfl, rfl, rfl, .inl ⟨rfl, rfl⟩⟩, trivial⟩; rfl)))
end Go.Proofs.Ytmohcmghbfhdlaa
end
end
/- Chapter 6: the square's net, in plain numbers; the examples' nets in a greater memory. -/
section
set_option linter.unusedSimpArgs false
set_option linter.unusedVariables false
section
namespace Go.Me
open Go.Ab Go.Proofs.Ytmohcmghbfhdlaa
theorem cps : cpB sqp = 0 := by kernel_rfl
theorem ors : ordL sqp = [0, 3, 4, 1, 2] := by
  unfold ordL
  have h : (List.range sqp.length) = [0, 1, 2, 3, 4] := by decide
  rw [h]
  simp [List.mergeSort, List.MergeSort.Internal.splitInTwo, List.merge, ordP, cmpI, sqp, pt]
theorem hls : hl sqp = [0, 1, 2, 3] := by
  unfold hl
  rw [ors]
  kernel_rfl
theorem nets : NetR sqp sqt := by
  refine ⟨cps, by decide, fun j hj => ?_, by kernel_rfl, ?_⟩
  · have h : ((List.range 4).all fun j => decide (trK sqp sqt j = 0)) = true := by kernel_rfl
    exact of_decide_eq_true (List.all_eq_true.1 h j (List.mem_range.2 hj))
  · unfold gpB
    rw [hls]
    kernel_rfl
theorem eds : edL sqt = [⟨0, 1⟩, ⟨0, 3⟩, ⟨0, 4⟩, ⟨1, 2⟩, ⟨1, 4⟩, ⟨2, 3⟩, ⟨2, 4⟩, ⟨3, 4⟩] := by
  have h : (eqS sqt (List.range (lfA sqt).length)).isPerm [⟨0, 1⟩, ⟨0, 3⟩, ⟨0, 4⟩, ⟨1, 2⟩, ⟨1, 4⟩, ⟨2, 3⟩, ⟨2, 4⟩, ⟨3, 4⟩] = true := by kernel_rfl
  unfold edL
  rw [sortE_eq (List.isPerm_iff.1 h)]
  exact sort_sorted (by decide)
theorem sds : (sdL sqt).length = 8 ∧ pt (sdL sqt) 2 = ⟨1, 0⟩ := by
  unfold sdL
  rw [eds]
  exact ⟨rfl, by kernel_rfl⟩
theorem fks : flK sqp (sqp.length - 2) = false := by kernel_rfl
end Go.Me
namespace Go.Proofs.Ytmohcmghbfhdlaa
open Go Go.RowKit Go.Ab Go.Me
set_option maxRecDepth 100000
set_option maxHeartbeats 4000000
attribute [local irreducible] OQ OW AL AW AD AF SW
theorem Square_q (m : Mem) : ACalls Try.prog 24 [] m (.agg #[.slice (some ⟨m.length, 0, none⟩) 5 5, .slice (some ⟨m.length + 1, 0, none⟩) 4 4]) (m ++ [some ⟨flatP sqp, true, 2⟩, some ⟨flatT sqt, true, 3⟩]) := by
  have h := ACalls.viaS (m := m) (args := []) (v := .agg #[.slice (some ⟨m.length, 0, none⟩) 5 5, .slice (some ⟨m.length + 1, 0, none⟩) 4 4]) [] [] [some ⟨flatP sqp, true, 2⟩, some ⟨flatT sqt, true, 3⟩] Square_y trivial (by simp) ⟨⟨rfl, rfl, rfl, .inl ⟨rfl, rfl⟩⟩, ⟨rfl, rfl, rfl, .inl ⟨rfl, rfl⟩⟩, trivial⟩ rfl rfl rfl rfl
  exact h
theorem Corner_q (m : Mem) : ACalls Try.prog 26 [] m (.agg #[.slice (some ⟨m.length, 0, none⟩) 3 3, .slice (some ⟨m.length + 1, 0, none⟩) 1 1, .slice (some ⟨m.length + 2, 0, none⟩) 3 3, .slice (some ⟨m.length + 3, 0, none⟩) 3 3]) (m ++ [some ⟨flatP l0, true, 2⟩, some ⟨flatT ts0, true, 3⟩, some ⟨flatN ph0, true, 1⟩, some ⟨flatN cs0, true, 1⟩]) := by
  have h := ACalls.viaS (m := m) (args := []) (v := .agg #[.slice (some ⟨m.length, 0, none⟩) 3 3, .slice (some ⟨m.length + 1, 0, none⟩) 1 1, .slice (some ⟨m.length + 2, 0, none⟩) 3 3, .slice (some ⟨m.length + 3, 0, none⟩) 3 3]) [] [] [some ⟨flatP l0, true, 2⟩, some ⟨flatT ts0, true, 3⟩, some ⟨flatN ph0, true, 1⟩, some ⟨flatN cs0, true, 1⟩] Corner_y trivial (by simp) ⟨⟨rfl, rfl, rfl, .inl ⟨rfl, rfl⟩⟩, ⟨rfl, rfl, rfl, .inl ⟨rfl, rfl⟩⟩, ⟨rfl, rfl, rfl, .inl ⟨rfl, rfl⟩⟩, ⟨rfl, rfl, rfl, .inl ⟨rfl, rfl⟩⟩, trivial⟩ rfl rfl rfl rfl
  exact h
end Go.Proofs.Ytmohcmghbfhdlaa
end
end
/- Chapter 6: equal lists of numbers; Sides and Unwrap in a greater memory. -/
section
set_option linter.unusedSimpArgs false
set_option linter.unusedVariables false
section
namespace Go.Me
open Go.Ab Go.Proofs.Ytmohcmghbfhdlaa
theorem nts_eq {xs ys : List Int} (hl : xs.length = ys.length) (h : ∀ k, k < xs.length → nt xs k = nt ys k) : xs = ys := by
  refine List.ext_getElem hl fun i h1 h2 => ?_
  have := h i h1
  unfold nt at this
  rw [List.getD_eq_getElem?_getD, List.getD_eq_getElem?_getD, List.getElem?_eq_getElem h1, List.getElem?_eq_getElem h2] at this
  exact this
end Go.Me
namespace Go.Proofs.Ytmohcmghbfhdlaa
open Go Go.RowKit Go.Ab Go.Me
set_option maxRecDepth 100000
set_option maxHeartbeats 4000000
attribute [local irreducible] OQ OW AL AW AD AF SW
theorem Ints_0 (xs ys : List Int) (hl : xs.length ≤ 1000000) (c d z z1 : Nat) :
    PCalls Try.prog 13 [.slice (some ⟨0, 0, none⟩) xs.length c, .slice (some ⟨1, 0, none⟩) ys.length d] [some ⟨flatN xs, false, z⟩, some ⟨flatN ys, false, z1⟩] (.bool (decide (xs = ys))) := by
  have hgX : ∀ k, k < xs.length → (flatN xs)[k]? = some (.int .i64 (nt xs k)) := fun k hk => flatN_get _ k hk
  have hgY : ∀ k, k < ys.length → (flatN ys)[k]? = some (.int .i64 (nt ys k)) := fun k hk => flatN_get _ k hk
  have h1 : xs.length ≠ ys.length → decide (xs = ys) = false := fun h => decide_eq_false fun h2 => h (by rw [h2])
  have h2 : ∀ k, nt xs k ≠ nt ys k → decide (xs = ys) = false := fun k h => decide_eq_false fun h2 => h (by rw [h2])
  have h3 : xs.length = ys.length → (∀ j, j < xs.length → nt xs j = nt ys j) → decide (xs = ys) = true := fun h h2 => decide_eq_true (nts_eq h h2)
  generalize decide (xs = ys) = B0 at *
  refine PCalls.enter (t := [.slice (some ⟨0, 0, none⟩) xs.length c, .slice (some ⟨1, 0, none⟩) ys.length d, undef, undef, undef, undef, undef, undef, undef, undef, undef, undef, undef, undef, undef, undef, undef, undef, undef, undef, undef, undef, undef, undef, undef, undef]) Try.func13 rfl (ro2p _ _ rfl rfl) rfl fun E => ?_
  repeat' (first
    | with_reducible (first | refine Then.n ?_ | refine Then.r ?_ | refine Then.x ?_ | refine InB.n ?_ | refine InB.r ?_ | refine InB.hit ?_ | refine InB.miss (by decide) ?_)
    | ((with_reducible refine AL.on ?_); first
      | ((first | ((with_reducible refine AL.k_move ?_); first | (refine AL.q rfl (OQ.move wl) ?_)) | ((with_reducible refine AL.k_assign ?_); first | (refine AL.q rfl (OQ.assign wl) ?_)) | ((with_reducible refine AL.k_binOp ?_); first | refine AL.q rfl (OQ.neq rfl rfl) ?_ | refine AL.q rfl (OQ.lss rfl rfl) ?_ | refine AL.q rfl (OQ.addi rfl rfl (by omega)) ?_ | refine AL.q rfl (OQ.add rfl rfl) ?_) | ((with_reducible refine AL.k_call ?_); first | refine AL.q rfl (OQ.lenS (xt := 29) (r := (none, 1, false)) rfl kr) ?_)); (refine AL.nm ?_))
      | refine AL.nil ?_)
    | ((with_reducible refine AW.on ?_); first
      | refine AW.seq ?_
      | refine AW.skip ?_
      | refine AW.exit ?_
      | refine AW.ret ?_
      | ((refine AW.block (id := 0) ?_); (refine AW.fk [0, 1, 5] ?_); (refine AW.loop (fun n' t' m => ∃ k : Nat, n' = xs.length - k ∧ k ≤ xs.length ∧ (∀ j, j < k → nt xs j = nt ys j) ∧ t' = [.slice (some ⟨0, 0, none⟩) xs.length c, .slice (some ⟨1, 0, none⟩) ys.length d, jk, jk, jk, .int .i64 (k), jk, jk, jk, jk, jk, jk, jk, jk, jk, jk, jk, jk, jk, jk, jk, jk, jk, jk, jk, jk] ∧ m = [some ⟨flatN xs, false, z⟩, some ⟨flatN ys, false, z1⟩]) (xs.length) (by exact ⟨0, rfl, Nat.zero_le _, fun j h => absurd h (by omega), rfl, rfl⟩) ?_); (rintro n' t' m ⟨k, rfl, hk, hj, rfl, rfl⟩))
      | refine AW.block ?_
      | (refine AW.drawF (id := 6) 8 #[0, 0, 3, 7, 0, 0, 48, 112, 255] kr kr ?_; (conv => (arg 8; simp only [List.take_succ_cons, List.take_zero])))
      | refine AW.region ?_
      | (refine AW.conds rfl (fun hc => ?_) (fun hc => ?_) <;> (try replace hc := nc hc) <;> first | (exfalso; first | contradiction | (first | omega | (simp at hc; done)); done) | skip))
    | ((with_reducible refine AF.on ?_); first
      | ((first | ((with_reducible refine AF.k_move ?_); first | (refine AF.q 0 (SW.q (OQ.move wl) rfl) ?_)) | ((with_reducible refine AF.k_indexAddr ?_); first | refine AF.q 0 (SW.q (OQ.idxAddr (ty := 29) (z := 1) (g := false) rfl rfl kr (by first | omega | decide) (by first | omega | decide)) rfl) ?_) | ((with_reducible refine AF.k_load ?_); first | (refine AF.ql rfl (SW.q (OQ.load1 (ty := 3) rfl kr (by first | (first | exact hgX k (by omega) | exact hgY k (by omega)) | (conv => lhs; whnf))) rfl) ?_))); (conv => (arg 9; try tactic => exact nrmF)); (conv => (arg 11; try simp only [List.nil_append, List.cons_append])))
      | (refine AF.nil ?_ kr; (conv => (arg 4; simp only [List.drop_succ_cons, List.drop_zero, List.drop_nil]))))
    | ((with_reducible refine ex_on ?_); (refine ⟨xs.length - (k + 1), _, _, by omega, ?_, k + 1, rfl, by omega, fun j h => (by rcases Nat.lt_or_eq_of_le (Nat.le_of_lt_succ h) with h | rfl; (exact hj j h); omega), rfl, rfl⟩; exact Wk.fk [0, 1, 5] rfl))
    | ((with_reducible refine FinP.on ?_); (first | refine FinP.ret (.tmp wl .nil) ?_ rfl | refine FinP.end (.tmp wl .nil) ?_ rfl); (try simp only [pack, List.drop, List.take]); all_goals (first | (rw [h1 (by omega)]; done) | (rw [h2 k (by omega)]; done) | (obtain rfl : k = xs.length := (by omega); rw [h3 (by omega) hj]))))
theorem Ints_q {m : Mem} {b b' n n' c d : Nat} {X Y : Blk} (xs ys : List Int) (hl : xs.length ≤ 1000000) (x1 : m.at b = some X) (x2 : X.cells = flatN xs) (hn : xs.length = n) (y1 : m.at b' = some Y) (y2 : Y.cells = flatN ys) (hn' : ys.length = n') (x3 : X.obj = Ob.plain := by rfl) (y3 : Y.obj = Ob.plain := by rfl) :
    PCalls Try.prog 13 [.slice (some ⟨b, 0, none⟩) n c, .slice (some ⟨b', 0, none⟩) n' d] m (.bool (decide (xs = ys))) := by
  subst hn hn'
  exact PCalls.viaS [b, b'] (Ints_0 xs ys hl c d X.esz Y.esz) (ro2p _ _ rfl rfl) ⟨⟨_, x1, by unfold Blk.shp Blk.shpR; rw [x3]; rfl, (fun h => nomatch h), .inl ⟨x2, flatN_scal _⟩⟩, ⟨_, y1, by unfold Blk.shp Blk.shpR; rw [y3]; rfl, (fun h => nomatch h), .inl ⟨y2, flatN_scal _⟩⟩, trivial⟩ rfl rfl rfl rfl
theorem Sides_q {m : Mem} {bP bT n k c c2 : Nat} (l : List Pn) (ts : List T3) (hA : ArgN m bP bT l ts) (hn : l.length = n) (hk : ts.length = k) (hR : NetR l ts) :
    ACalls Try.prog 18 [.agg #[.slice (some ⟨bP, 0, none⟩) n c, .slice (some ⟨bT, 0, none⟩) k c2]] m (.tuple #[.slice (some ⟨m.length, 0, none⟩) (sdL ts).length INF, .int .i64 0]) (m ++ [some ⟨flatP (sdL ts), true, 2⟩]) := by
  subst hn hk
  obtain ⟨⟨A, h1, h2, h3, h4⟩, ⟨B, h5, h6, h7⟩, hne⟩ := hA
  have h := ACalls.viaS (m := m) (args := [.agg #[.slice (some ⟨bP, 0, none⟩) l.length c, .slice (some ⟨bT, 0, none⟩) ts.length c2]]) (v := .tuple #[.slice (some ⟨m.length, 0, none⟩) (sdL ts).length INF, .int .i64 0]) [bP, bT] [] [some ⟨flatP (sdL ts), true, 2⟩] (Sides_y0 l ts c c2 A.esz B.esz h3 hR) ⟨⟨_, h1, by unfold Blk.shp Blk.shpR; rw [h4]; rfl, (fun h => nomatch h), .inl ⟨h2, flatP_scal _⟩⟩, ⟨_, h5, by unfold Blk.shp Blk.shpR; rw [h7]; rfl, (fun h => nomatch h), .inl ⟨h6, flatT_scal _⟩⟩, trivial⟩ (by simpa using hne) ⟨⟨_, rfl, rfl⟩, ⟨_, rfl, rfl⟩, ⟨rfl, rfl, rfl, .inl ⟨rfl, flatP_scal _⟩⟩, trivial⟩ rfl rfl rfl rfl
  exact h
end Go.Proofs.Ytmohcmghbfhdlaa
end
end
/- Chapter 6: the law's examples (awake). -/
section
set_option linter.unusedSimpArgs false
set_option linter.unusedVariables false
section
namespace Go.Proofs.Ytmohcmghbfhdlaa
open Go Go.RowKit Go.Ab Go.Me
set_option maxRecDepth 100000
set_option maxHeartbeats 4000000
attribute [local irreducible] OQ OW AL AW AD AF SW
theorem Unwrap_q {m : Mem} {bP bT bF bC n k j i c c2 c3 c4 : Nat} {F C : Blk} (hA : ArgN m bP bT l0 ts0) (hn : 3 = n) (hk : 1 = k) (f1 : m.at bF = some F) (f2 : F.cells = flatN ph0) (hj : 3 = j) (c1 : m.at bC = some C) (c2' : C.cells = flatN cs0) (hi : 3 = i) (hd : [bP, bT, bF, bC].Nodup) (f3 : F.obj = Ob.plain := by rfl) (c3' : C.obj = Ob.plain := by rfl) :
    ACalls Try.prog 25 [.agg #[.slice (some ⟨bP, 0, none⟩) n c, .slice (some ⟨bT, 0, none⟩) k c2, .slice (some ⟨bF, 0, none⟩) j c3, .slice (some ⟨bC, 0, none⟩) i c4]] m (.tuple #[.slice (some ⟨m.length, 0, none⟩) 3 3, .slice (some ⟨m.length + 1, 0, none⟩) 1 INF, .int .i64 3, .int .i64 0]) (m ++ [some ⟨flatN [0, 1, 0], true, 1⟩, some ⟨flatN (faK (wyN rs1 (wyF [-1] 1) 2) 1), true, 1⟩]) := by
  subst hn hk hj hi
  obtain ⟨⟨A, a1, a2, h3, a3⟩, ⟨B, b1, b2, b3⟩, _⟩ := hA
  have h0 := Unwrap_y0 l0 ts0 ph0 cs0 ta0 1 [0, 1, 0] le0 (by decide) 2 (by show WyR (acL ts0 cs0 [0, 1, 0] 3) (wyF [-1] 1) 2; rw [ac01]; exact wy01) c c2 c3 c4 A.esz B.esz F.esz C.esz h3
  have hel : (edL ts0).length = 3 := by rw [ed0]; rfl
  rw [hel, co0] at h0
  have hac : acL ts0 cs0 [0, 1, 0] ([0, 1, 0] : List Int).length = rs1 := ac01
  rw [hac] at h0
  have h := ACalls.viaS (m := m) (args := [.agg #[.slice (some ⟨bP, 0, none⟩) 3 c, .slice (some ⟨bT, 0, none⟩) 1 c2, .slice (some ⟨bF, 0, none⟩) 3 c3, .slice (some ⟨bC, 0, none⟩) 3 c4]]) (v := .tuple #[.slice (some ⟨m.length, 0, none⟩) 3 3, .slice (some ⟨m.length + 1, 0, none⟩) 1 INF, .int .i64 3, .int .i64 0]) [bP, bT, bF, bC] [] [some ⟨flatN [0, 1, 0], true, 1⟩, some ⟨flatN (faK (wyN rs1 (wyF [-1] 1) 2) 1), true, 1⟩] h0
    ⟨⟨_, a1, by unfold Blk.shp Blk.shpR; rw [a3]; rfl, (fun h => nomatch h), .inl ⟨a2, flatP_scal _⟩⟩, ⟨_, b1, by unfold Blk.shp Blk.shpR; rw [b3]; rfl, (fun h => nomatch h), .inl ⟨b2, flatT_scal _⟩⟩, ⟨_, f1, by unfold Blk.shp Blk.shpR; rw [f3]; rfl, (fun h => nomatch h), .inl ⟨f2, flatN_scal _⟩⟩, ⟨_, c1, by unfold Blk.shp Blk.shpR; rw [c3']; rfl, (fun h => nomatch h), .inl ⟨c2', flatN_scal _⟩⟩, trivial⟩ hd ⟨⟨_, rfl, rfl⟩, ⟨_, rfl, rfl⟩, ⟨_, rfl, rfl⟩, ⟨_, rfl, rfl⟩, ⟨rfl, rfl, rfl, .inl ⟨rfl, flatN_scal _⟩⟩, ⟨rfl, rfl, rfl, .inl ⟨rfl, flatN_scal _⟩⟩, trivial⟩ rfl rfl rfl rfl
  exact h
end Go.Proofs.Ytmohcmghbfhdlaa
end
end
/- Chapter 6: the law's examples, walked (awake). -/
section
set_option linter.unusedSimpArgs false
set_option linter.unusedVariables false
section
namespace Go.Proofs.Ytmohcmghbfhdlaa
open Go Go.RowKit Go.Ab Go.Me
set_option maxRecDepth 100000
set_option maxHeartbeats 4000000
theorem eqr_t45 (d : Nat) (w : World) (a0 a1 b0 b1 : Int) : (Op.equalIn (d + 2) 45 (.agg #[.int .i64 a0, .int .i64 a1]) (.agg #[.int .i64 b0, .int .i64 b1])).run Try.prog w = .ok (decide ((a0, a1) = (b0, b1))) w := by
  unfold Op.equalIn
  simp [Try.underlying45, run_underlying, go_sem, List.range', List.forIn_cons]
  by_cases h0 : a0 = b0
  case neg => simp [h0]
  by_cases h1 : a1 = b1
  case neg => simp [h0, h1]
  simp [h0, h1]
theorem eql_t45 {t : T} {m : Mem} {dst : Option Tmp} {rt ty' : TypeId} {pos : String} {after : Array Edge} {guard : Option (Nat × Bool)} {x y : Operand} {a0 a1 b0 b1 : Int} (hx : t.ev x = (.agg #[.int .i64 a0, .int .i64 a1])) (hy : t.ev y = (.agg #[.int .i64 b0, .int .i64 b1])) :
    OQ Try.prog ⟨dst, .binOp .eql 45 x y ty', rt, pos, after, guard⟩ t m (.bool (decide ((a0, a1) = (b0, b1)))) := by
  refine OQ.closed (fun cs b => by simp) (fun z hz => ?_) (fun w => ?_) rfl
  · simp [Op.operands] at hz
    rcases hz with rfl | rfl
    · rw [hx]; rfl
    · rw [hy]; rfl
  · have e := eqr_t45 9998 w a0 a1 b0 b1
    have hgt : (Try.prog).eqGuardType (Try.prog).depth 45 = false := by kernel_rfl
    have hg : (eqGuard .eql 45 x y (t.ev x) (t.ev y)).run Try.prog w = .ok () w := by
      rw [hx, hy]
      simp [eqGuard, program, Sem.run, Sem.run_bind, hgt]
    rw [hx, hy] at hg
    simp only [execOp, hx, hy, Sem.run_bind, hg, Result.andThen_ok, binOp, Op.equal, Op.maxDepth]
    erw [e]
    simp [go_sem]
attribute [local irreducible] OQ OW AL AW AD AF SW
theorem Ints_t {m : Mem} {b b' n n' c d : Nat} {X Y : Blk} (xs : List Int) (hl : xs.length ≤ 1000000) (x1 : m.at b = some X) (x2 : X.cells = flatN xs) (hn : xs.length = n) (y1 : m.at b' = some Y) (y2 : Y.cells = flatN xs) (hn' : xs.length = n') (x3 : X.obj = Ob.plain := by rfl) (y3 : Y.obj = Ob.plain := by rfl) :
    PCalls Try.prog 13 [.slice (some ⟨b, 0, none⟩) n c, .slice (some ⟨b', 0, none⟩) n' d] m (.bool true) := by
  have h := Ints_q (m := m) (c := c) (d := d) xs xs hl x1 x2 hn y1 y2 hn' x3 y3
  rw [decide_eq_true rfl] at h
  exact h
theorem awake_0 : PCalls Try.prog 6 [] [] (.bool true) := by
  have hH := fun (m : Mem) (b : Nat) (blk : Blk) (h1 : m.at b = some blk) (h2 : blk.cells = flatP sqp) (h3 : blk.esz = 0 ∨ blk.esz = 2) (h4 : blk.obj = Ob.plain) => Hull_y (n := 5) (c := 5) sqp cps fks h1 h2 rfl h3 h4
  rw [hls] at hH
  have hS := fun (m : Mem) (bP bT : Nat) (hA : ArgN m bP bT sqp sqt) => Sides_q (n := 5) (k := 4) (c := 5) (c2 := 4) sqp sqt hA rfl rfl nets
  rw [sds.1] at hS
  have hsd : sdL sqt = [⟨0, -1⟩, ⟨-1, 1⟩, ⟨1, 0⟩, ⟨2, -1⟩, ⟨0, 2⟩, ⟨3, -1⟩, ⟨2, 3⟩, ⟨3, 1⟩] := by
    unfold sdL
    rw [eds]
    kernel_rfl
  rw [hsd] at hS
  have hU := fun (m : Mem) (bP bT bF bC : Nat) (F C : Blk) (hA : ArgN m bP bT l0 ts0) (f1 : m.at bF = some F) (f2 : F.cells = flatN ph0) (f3 : F.obj = Ob.plain) (c1 : m.at bC = some C) (c2 : C.cells = flatN cs0) (c3 : C.obj = Ob.plain) (hd : [bP, bT, bF, bC].Nodup) => Unwrap_q (c := 3) (c2 := 1) (c3 := 3) (c4 := 3) hA rfl rfl f1 f2 rfl c1 c2 rfl hd f3 c3
  have hD := fun (m : Mem) (b : Nat) (blk : Blk) (h1 : m.at b = some blk) (h2 : blk.cells = flatN [9, 12]) (h3 : blk.obj = Ob.plain) => Dispersion_q (n := 2) (c := 2) [9, 12] h1 h2 rfl (by decide) h3
  rw [dsV_9] at hD
  have hF := fun (m : Mem) (bP bT bF bX : Nat) (F X : Blk) (hA : ArgN m bP bT l0 ts0) (f1 : m.at bF = some F) (f2 : F.cells = flatN ph0) (f3 : F.obj = Ob.plain) (x1 : m.at bX = some X) (x2 : X.cells = flatN xs0) (x3 : X.obj = Ob.plain) (hd : [bP, bT, bF, bX].Nodup) => Field_y (n := 3) (k := 1) (j := 3) (i := 3) (c := 3) (c2 := 1) (c3 := 3) (c4 := 3) l0 ts0 ph0 xs0 hA rfl rfl f1 f2 rfl x1 x2 rfl (netE_0.1 net0) ta0.ph tu0 1 fdr0 (by decide) hd f3 x3
  have hfv : (fdN (dfL ts0 ph0) xs0 (edL ts0) (fd0 l0.length (nt ph0 0)) 1).1 = [0, 1500, 2596] := fdv0
  rw [hfv] at hF
  refine PCalls.enter (t := [undef, undef, undef, undef, undef, undef, undef, undef, undef, undef, undef, undef, undef, undef, undef, undef, undef, undef, undef, undef, undef, undef, undef, undef, undef, undef, undef, undef, undef, undef, undef, undef, undef, undef, undef, undef, undef, undef, undef, undef, undef, undef, undef, undef, undef, undef, undef, undef, undef, undef, undef, undef, undef, undef, undef, undef, undef, undef, undef, undef, undef, undef, undef, undef, undef, undef, undef, undef, undef, undef, undef, undef, undef, undef, undef, undef, undef, undef, undef, undef, undef, undef, undef, undef, undef, undef, undef, undef, undef, undef, undef, undef, undef, undef]) Try.func6 rfl (ro_nil) rfl fun E => ?_
  repeat' (first
    | with_reducible (first | refine Then.n ?_ | refine Then.r ?_ | refine Then.x ?_ | refine InB.n ?_ | refine InB.r ?_ | refine InB.hit ?_ | refine InB.miss (by decide) ?_)
    | ((with_reducible refine AL.on ?_); first
      | (refine AL.gd rfl ?_; first | (refine AL.gskip rfl rfl ?_; (refine AL.nm ?_)) | (refine AL.gs1 rfl rfl (fun hc => ?_) (fun hc => ?_) <;> (try replace hc := nc hc) <;> first | (exfalso; first | contradiction | (first | omega | (simp at *; done)); done) | (refine AL.nm ?_)) | (refine AL.gs0 rfl rfl (fun hc => ?_) (fun hc => ?_) <;> (try replace hc := nc hc) <;> first | (exfalso; first | contradiction | (first | omega | (simp at *; done)); done) | (refine AL.nm ?_)))
      | ((first | ((with_reducible refine AL.k_move ?_); first | (refine AL.q rfl (OQ.move wl) ?_)) | ((with_reducible refine AL.k_assign ?_); first | (refine AL.q rfl (OQ.assign wl) ?_)) | ((with_reducible refine AL.k_call ?_); first | refine AL.q rfl (OQ.lenS (xt := 42) (r := (none, 2, true)) rfl kr) ?_) | ((with_reducible refine AL.k_extract ?_); first | refine AL.q rfl (OQ.extract rfl rfl) ?_) | ((with_reducible refine AL.k_pick ?_); first | (refine AL.q rfl (OQ.pickT rfl (by with_reducible rfl) wl) ?_) | (refine AL.q rfl (OQ.pickF rfl (by with_reducible rfl) wl) ?_)) | ((with_reducible refine AL.k_binOp ?_); first | refine AL.q rfl (OQ.eql rfl rfl) ?_ | refine AL.q rfl (eql_t45 rfl rfl) ?_) | ((with_reducible refine AL.k_field ?_); first | refine AL.q rfl (OQ.field1 (ty := 38) (i := 0) (n := 1) (off := 0) rfl kr rfl) ?_ | refine AL.q rfl (OQ.fieldL (ty := 59) (i := 0) (n := 2) (off := 0) rfl kr rfl) ?_ | refine AL.q rfl (OQ.field1 (ty := 59) (i := 1) (n := 1) (off := 2) rfl kr rfl) ?_) | ((with_reducible refine AL.k_load ?_); first | refine AL.q rfl (OQ.loadN (ty := 45) (n := 2) rfl kr kr rfl) ?_) | ((with_reducible refine AL.k_indexAddr ?_); first | refine AL.q rfl (OQ.idxAddr (ty := 42) (z := 2) (g := true) rfl rfl kr (by first | omega | decide) (by first | omega | decide)) ?_)); (refine AL.nm ?_))
      | ((first | ((with_reducible refine AL.k_call ?_); first | refine AL.pcall (g := 27) rfl kr rfl ((by exact hD _ _ _ rfl rfl rfl)) ?_ | refine AL.pcall (g := 13) rfl kr rfl ((by first | exact Ints_t [0, 1, 2, 3] (by decide) rfl rfl rfl rfl rfl rfl | exact Ints_t [0, 1500, 2596] (by decide) rfl rfl rfl rfl rfl rfl)) ?_) | ((with_reducible refine AL.k_build ?_); first | refine AL.q rfl (OQ.buildA (ty := 45) (zs := [.int .i64 0, .int .i64 0]) (n := 1) (k := 2) (g := false) kr rfl kr rfl rfl rfl) ?_)); (refine AL.nm ?_))
      | ((first | ((with_reducible refine AL.k_call ?_); first | refine AL.acall (g := 24) rfl kr rfl ((by exact Square_q _)) ?_ | refine AL.acall (g := 10) rfl kr rfl ((by exact hH _ _ _ rfl rfl (.inr rfl) rfl)) ?_ | refine AL.acall (g := 18) rfl kr rfl ((by exact hS _ _ _ ⟨⟨_, rfl, rfl, .inr rfl, rfl⟩, ⟨_, rfl, rfl, rfl⟩, by decide⟩)) ?_ | refine AL.acall (g := 26) rfl kr rfl ((by exact Corner_q _)) ?_ | refine AL.acall (g := 25) rfl kr rfl ((by exact hU _ _ _ _ _ _ _ ⟨⟨_, rfl, rfl, .inr rfl, rfl⟩, ⟨_, rfl, rfl, rfl⟩, by decide⟩ rfl rfl rfl rfl rfl rfl (by decide))) ?_ | refine AL.acall (g := 28) rfl kr rfl ((by exact hF _ _ _ _ _ _ _ ⟨⟨_, rfl, rfl, .inr rfl, rfl⟩, ⟨_, rfl, rfl, rfl⟩, by decide⟩ rfl rfl rfl rfl rfl rfl (by decide))) ?_) | ((with_reducible refine AL.k_buildSlice ?_); first | refine AL.w rfl (OW.buildSl (ty := 29) (zs := [.int .i64 0]) (n := 1) (g := false) kr kr rfl rfl rfl (by decide) (by decide) rfl rfl) ?_) | ((with_reducible refine AL.k_alloc ?_); first | refine AL.w rfl (OW.alloc (ty := 45) (z := [.int .i64 0, .int .i64 0]) kr rfl) ?_) | ((with_reducible refine AL.k_store ?_); first | (refine AL.w rfl (OW.store (ty := 45) (n := 2) rfl wl rfl rfl kr rfl rfl (by decide) rfl (Nat.le_of_ble_eq_true rfl) (by intro r h; cases h)) ?_))); (refine AL.nm ?_); (refine AL.nM ?_))
      | (refine AL.bs rfl (fun hc => ?_) (fun hc => ?_) <;> (fail_if_success (with_reducible exact lit_no hc)) <;> (try replace hc := nc hc) <;> first | (exfalso; first | contradiction | (first | omega | (simp at *; done)); done) | (refine AL.nm ?_))
      | refine AL.nil ?_)
    | ((with_reducible refine AW.on ?_); first
      | refine AW.seq ?_
      | refine AW.skip ?_
      | refine AW.exit ?_
      | refine AW.ret ?_
      | refine AW.block ?_
      | refine AW.region ?_
      | (refine AW.conds rfl (fun hc => ?_) (fun hc => ?_) <;> (try replace hc := nc hc) <;> first | (exfalso; first | contradiction | (first | omega | (simp at *; done)); done) | skip))
    | ((with_reducible refine FinP.on ?_); (first | refine FinP.ret (.tmp wl .nil) ?_ rfl | refine FinP.end (.tmp wl .nil) ?_ rfl); (try simp only [pack, List.drop, List.take]); all_goals (rfl)))
theorem awake_q (m : Mem) : PCalls Try.prog 6 [] m (.bool true) := PCalls.any awake_0 rfl rfl m
end Go.Proofs.Ytmohcmghbfhdlaa
end
end
/- Chapter 6: few points, and points in memory of their own (the law's). -/
section
set_option linter.unusedSimpArgs false
set_option linter.unusedVariables false
section
namespace Go.Me
def fwB (n : Nat) : Bool := decide ((n : Int) ≤ 9 ∨ ((n : Int) > 40 ∧ (n : Int) ≤ 42))
end Go.Me
namespace Go.Proofs.Ytmohcmghbfhdlaa
open Go Go.RowKit Go.Ab Go.Me
set_option maxRecDepth 100000
set_option maxHeartbeats 4000000
attribute [local irreducible] OQ OW AL AW AD AF SW
theorem few_0 (l : List Pn) (c z : Nat) (hl : (l.length : Int) ≤ 9223372036854775807) : PCalls Try.prog 7 [.slice (some ⟨0, 0, none⟩) l.length c] [some ⟨flatP l, false, z⟩] (.bool (fwB l.length)) := by
  have h1 : (l.length : Int) ≤ 9 → fwB l.length = true := fun h => decide_eq_true (.inl h)
  have h2 : 9 < (l.length : Int) → 40 < (l.length : Int) → fwB l.length = decide ((l.length : Int) ≤ 42) := fun h h2 => by
    unfold fwB
    by_cases h3 : (l.length : Int) ≤ 42
    · rw [decide_eq_true h3]; exact decide_eq_true (.inr ⟨h2, h3⟩)
    · rw [decide_eq_false h3]; exact decide_eq_false (by omega)
  have h3 : 9 < (l.length : Int) → (l.length : Int) ≤ 40 → fwB l.length = false := fun h h2 => decide_eq_false (by omega)
  generalize fwB l.length = B0 at *
  refine PCalls.enter (t := [.slice (some ⟨0, 0, none⟩) l.length c, undef, undef, undef, undef, undef, undef, undef, undef, undef, undef, undef, undef, undef, undef, undef]) Try.func7 rfl (ro1p _ rfl) rfl fun E => ?_
  repeat' (first
    | with_reducible (first | refine Then.n ?_ | refine Then.r ?_ | refine Then.x ?_ | refine InB.n ?_ | refine InB.r ?_ | refine InB.hit ?_ | refine InB.miss (by decide) ?_)
    | ((with_reducible refine AL.on ?_); first
      | (refine AL.gd rfl ?_; first | (refine AL.gskip rfl rfl ?_; (refine AL.nm ?_)) | (refine AL.gs1 rfl rfl (fun hc => ?_) (fun hc => ?_) <;> (try replace hc := nc hc) <;> first | (exfalso; first | contradiction | (first | omega | (simp at hc; done)); done) | (refine AL.nm ?_)) | (refine AL.gs0 rfl rfl (fun hc => ?_) (fun hc => ?_) <;> (try replace hc := nc hc) <;> first | (exfalso; first | contradiction | (first | omega | (simp at hc; done)); done) | (refine AL.nm ?_)))
      | ((first | ((with_reducible refine AL.k_move ?_); first | (refine AL.q rfl (OQ.move wl) ?_)) | ((with_reducible refine AL.k_call ?_); first | refine AL.q rfl (OQ.lenS (xt := 22) (r := (none, 2, true)) rfl kr) ?_) | ((with_reducible refine AL.k_binOp ?_); first | refine AL.q rfl (OQ.leq rfl rfl) ?_ | refine AL.q rfl (OQ.gtr rfl rfl) ?_) | ((with_reducible refine AL.k_assign ?_); first | (refine AL.q rfl (OQ.assign wl) ?_)) | ((with_reducible refine AL.k_pick ?_); first | (refine AL.q rfl (OQ.pickT rfl (by with_reducible rfl) wl) ?_) | (refine AL.q rfl (OQ.pickF rfl (by with_reducible rfl) wl) ?_))); (refine AL.nm ?_))
      | (refine AL.bs rfl (fun hc => ?_) (fun hc => ?_) <;> (fail_if_success (with_reducible exact lit_no hc)) <;> (try replace hc := nc hc) <;> first | (exfalso; first | contradiction | (first | omega | (simp at hc; done)); done) | (refine AL.nm ?_))
      | refine AL.nil ?_)
    | ((with_reducible refine AW.on ?_); first
      | refine AW.seq ?_
      | refine AW.skip ?_
      | refine AW.exit ?_
      | refine AW.ret ?_
      | refine AW.block ?_
      | refine AW.region ?_
      | (refine AW.conds rfl (fun hc => ?_) (fun hc => ?_) <;> (try replace hc := nc hc) <;> first | (exfalso; first | contradiction | (first | omega | (simp at hc; done)); done) | skip))
    | ((with_reducible refine FinP.on ?_); (first | refine FinP.ret (.tmp wl .nil) ?_ rfl | refine FinP.end (.tmp wl .nil) ?_ rfl); (try simp only [pack, List.drop, List.take]); all_goals (first | (rw [h1 (by omega)]; done) | (rw [h2 (by omega) (by omega)]; done) | (rw [h3 (by omega) (by omega)]; done))))
end Go.Proofs.Ytmohcmghbfhdlaa
end
end
/- Chapter 6: few, Light and the copy of a net, for lists of any form. -/
section
set_option linter.unusedSimpArgs false
set_option linter.unusedVariables false
section
namespace Go.Me
open Go.Ab
def fwT (n : Nat) : Bool := decide ((n : Int) ≤ 14 ∨ ((n : Int) > 80 ∧ (n : Int) ≤ 82))
def liB (l : List Pn) (ts : List T3) : Bool := fwB l.length && fwT ts.length
def cpC (n : Nat) : Nat := if n = 0 then 0 else INF
theorem ldP {m : Mem} {b n : Nat} {blk : Blk} {l : List Pn} (hb : m.at b = some blk) (hc : blk.cells = flatP l) (hn : l.length = n) : m.ld b 0 (n * 2) = some (flatP l) := by
  subst hn
  unfold Mem.ld
  rw [hb]
  show (if 0 + l.length * 2 ≤ blk.cells.length then some ((blk.cells.drop 0).take (l.length * 2)) else none) = _
  rw [hc, flatP_len, if_pos (by omega), List.drop_zero, ← flatP_len, List.take_length]
theorem ldT {m : Mem} {b n : Nat} {blk : Blk} {l : List T3} (hb : m.at b = some blk) (hc : blk.cells = flatT l) (hn : l.length = n) : m.ld b 0 (n * 3) = some (flatT l) := by
  subst hn
  unfold Mem.ld
  rw [hb]
  show (if 0 + l.length * 3 ≤ blk.cells.length then some ((blk.cells.drop 0).take (l.length * 3)) else none) = _
  rw [hc, flatT_len, if_pos (by omega), List.drop_zero, ← flatT_len, List.take_length]
theorem flatP_one (l : List Pn) : (flatP l).all Ab.one = true := Ls.one_of_scal (flatP_scal l)
theorem flatT_one (l : List T3) : (flatT l).all Ab.one = true := Ls.one_of_scal (flatT_scal l)
end Go.Me
namespace Go.Proofs.Ytmohcmghbfhdlaa
open Go Go.RowKit Go.Ab Go.Me
set_option maxRecDepth 100000
set_option maxHeartbeats 4000000
attribute [local irreducible] OQ OW AL AW AD AF SW
theorem few_ng (m : Mem) : PCalls Try.prog 7 [.slice none 0 0] m (.bool true) := by
  refine PCalls.any ?_ rfl rfl m
  refine PCalls.enter (t := [.slice none 0 0, undef, undef, undef, undef, undef, undef, undef, undef, undef, undef, undef, undef, undef, undef, undef]) Try.func7 rfl (ro_nil) rfl fun E => ?_
  repeat' (first
    | with_reducible (first | refine Then.n ?_ | refine Then.r ?_ | refine Then.x ?_ | refine InB.n ?_ | refine InB.r ?_ | refine InB.hit ?_ | refine InB.miss (by decide) ?_)
    | ((with_reducible refine AL.on ?_); first
      | (refine AL.gd rfl ?_; first | (refine AL.gskip rfl rfl ?_; (refine AL.nm ?_)) | (refine AL.gs1 rfl rfl (fun hc => ?_) (fun hc => ?_) <;> (try replace hc := nc hc) <;> first | (exfalso; first | contradiction | (first | omega | (simp at hc; done)); done) | (refine AL.nm ?_)) | (refine AL.gs0 rfl rfl (fun hc => ?_) (fun hc => ?_) <;> (try replace hc := nc hc) <;> first | (exfalso; first | contradiction | (first | omega | (simp at hc; done)); done) | (refine AL.nm ?_)))
      | ((first | ((with_reducible refine AL.k_move ?_); first | (refine AL.q rfl (OQ.move wl) ?_)) | ((with_reducible refine AL.k_call ?_); first | refine AL.q rfl (OQ.lenS (xt := 22) (r := (none, 2, true)) rfl kr) ?_) | ((with_reducible refine AL.k_binOp ?_); first | refine AL.q rfl (OQ.leq rfl rfl) ?_ | refine AL.q rfl (OQ.gtr rfl rfl) ?_) | ((with_reducible refine AL.k_assign ?_); first | (refine AL.q rfl (OQ.assign wl) ?_)) | ((with_reducible refine AL.k_pick ?_); first | (refine AL.q rfl (OQ.pickT rfl (by with_reducible rfl) wl) ?_) | (refine AL.q rfl (OQ.pickF rfl (by with_reducible rfl) wl) ?_))); (refine AL.nm ?_))
      | (refine AL.bs rfl (fun hc => ?_) (fun hc => ?_) <;> (fail_if_success (with_reducible exact lit_no hc)) <;> (try replace hc := nc hc) <;> first | (exfalso; first | contradiction | (first | omega | (simp at hc; done)); done) | (refine AL.nm ?_))
      | refine AL.nil ?_)
    | ((with_reducible refine AW.on ?_); first
      | refine AW.seq ?_
      | refine AW.skip ?_
      | refine AW.exit ?_
      | refine AW.ret ?_
      | refine AW.block ?_
      | refine AW.region ?_
      | (refine AW.conds rfl (fun hc => ?_) (fun hc => ?_) <;> (try replace hc := nc hc) <;> first | (exfalso; first | contradiction | (first | omega | (simp at hc; done)); done) | skip))
    | ((with_reducible refine FinP.on ?_); (first | refine FinP.ret (.tmp wl .nil) ?_ rfl | refine FinP.end (.tmp wl .nil) ?_ rfl); (try simp only [pack, List.drop, List.take]); all_goals (rfl)))
theorem few_lg (m : Mem) : PCalls Try.prog 7 [lostV] m (.bool true) := by
  refine PCalls.viaS (m0 := []) (args0 := [lostV]) (v0 := .bool true) [] ?_ (fun b blk h => by simp [Mem.at] at h) trivial rfl rfl rfl rfl
  refine PCalls.enter (t := [.slice (some ⟨0, 0, some default⟩) 0 0, undef, undef, undef, undef, undef, undef, undef, undef, undef, undef, undef, undef, undef, undef, undef]) Try.func7 rfl (ro_nil) rfl fun E => ?_
  repeat' (first
    | with_reducible (first | refine Then.n ?_ | refine Then.r ?_ | refine Then.x ?_ | refine InB.n ?_ | refine InB.r ?_ | refine InB.hit ?_ | refine InB.miss (by decide) ?_)
    | ((with_reducible refine AL.on ?_); first
      | (refine AL.gd rfl ?_; first | (refine AL.gskip rfl rfl ?_; (refine AL.nm ?_)) | (refine AL.gs1 rfl rfl (fun hc => ?_) (fun hc => ?_) <;> (try replace hc := nc hc) <;> first | (exfalso; first | contradiction | (first | omega | (simp at hc; done)); done) | (refine AL.nm ?_)) | (refine AL.gs0 rfl rfl (fun hc => ?_) (fun hc => ?_) <;> (try replace hc := nc hc) <;> first | (exfalso; first | contradiction | (first | omega | (simp at hc; done)); done) | (refine AL.nm ?_)))
      | ((first | ((with_reducible refine AL.k_move ?_); first | (refine AL.q rfl (OQ.move wl) ?_)) | ((with_reducible refine AL.k_call ?_); first | refine AL.q rfl (OQ.lenS (xt := 22) (r := (none, 2, true)) rfl kr) ?_) | ((with_reducible refine AL.k_binOp ?_); first | refine AL.q rfl (OQ.leq rfl rfl) ?_ | refine AL.q rfl (OQ.gtr rfl rfl) ?_) | ((with_reducible refine AL.k_assign ?_); first | (refine AL.q rfl (OQ.assign wl) ?_)) | ((with_reducible refine AL.k_pick ?_); first | (refine AL.q rfl (OQ.pickT rfl (by with_reducible rfl) wl) ?_) | (refine AL.q rfl (OQ.pickF rfl (by with_reducible rfl) wl) ?_))); (refine AL.nm ?_))
      | (refine AL.bs rfl (fun hc => ?_) (fun hc => ?_) <;> (fail_if_success (with_reducible exact lit_no hc)) <;> (try replace hc := nc hc) <;> first | (exfalso; first | contradiction | (first | omega | (simp at hc; done)); done) | (refine AL.nm ?_))
      | refine AL.nil ?_)
    | ((with_reducible refine AW.on ?_); first
      | refine AW.seq ?_
      | refine AW.skip ?_
      | refine AW.exit ?_
      | refine AW.ret ?_
      | refine AW.block ?_
      | refine AW.region ?_
      | (refine AW.conds rfl (fun hc => ?_) (fun hc => ?_) <;> (try replace hc := nc hc) <;> first | (exfalso; first | contradiction | (first | omega | (simp at hc; done)); done) | skip))
    | ((with_reducible refine FinP.on ?_); (first | refine FinP.ret (.tmp wl .nil) ?_ rfl | refine FinP.end (.tmp wl .nil) ?_ rfl); (try simp only [pack, List.drop, List.take]); all_goals (rfl)))
theorem VRel.to_lost5 {ρ : Ren} {i o c : Nat} {v : Value} (h : VRel ρ (.slice (some ⟨i, o, some default⟩) 0 c) v) : VRel ρ lostV v := by
  cases h with
  | scal h => simp [Ab.scal] at h
  | empty => exact .lost
  | lost => exact .lost
theorem few_l5 (m : Mem) : PCalls Try.prog 7 [.slice (some ⟨5, 0, some default⟩) 0 0] m (.bool true) := by
  intro ρ args' w hdom hargs hm
  refine few_lg m ρ args' w hdom ?_ hm
  obtain ⟨xs, e, hl, hg⟩ := hargs.tuple_inv
  cases e
  refine .tuple (by simpa using hl) fun i hi hi' => ?_
  match i with
  | 0 =>
    obtain ⟨u, e0, r0⟩ := hg 0 _ rfl
    rw [Array.getElem?_eq_getElem hi'] at e0
    cases e0
    exact VRel.to_lost5 r0
  | i + 1 => exact absurd hi (by simp)
theorem few_bg {m : Mem} {b n c : Nat} {blk : Blk} (l : List Pn) (hb : m.at b = some blk) (hc : blk.cells = flatP l) (hn : l.length = n) (hl : (l.length : Int) ≤ 9223372036854775807) (ho : blk.obj = Ob.plain := by rfl) : PCalls Try.prog 7 [.slice (some ⟨b, 0, none⟩) n c] m (.bool (fwB n)) := by
  subst hn
  exact PCalls.viaS [b] (few_0 l c blk.esz hl) (ro1p _ rfl) ⟨⟨_, hb, by unfold Blk.shp Blk.shpR; rw [ho]; rfl, (fun h => nomatch h), .inl ⟨hc, flatP_scal _⟩⟩, trivial⟩ rfl rfl rfl rfl

theorem Light_e (v : Value) (l : List Pn) (xb : Option Addr) (o1 o2 : Option Blk) (hr : Mem.ro [o1, o2]) (hF : ∀ m : Mem, m.at 0 = Mem.at [o1, o2] 0 → PCalls Try.prog 7 [v] m (.bool (fwB l.length))) : PCalls Try.prog 14 [.agg #[v, .slice xb 0 0]] [o1, o2] (.bool (liB l [])) := by
  have hT0 : fwT ([] : List T3).length = true := by decide
  unfold liB
  generalize fwB l.length = B1 at *
  rw [hT0, Bool.and_true]
  refine PCalls.enter (t := [.agg #[v, .slice xb 0 0], undef, undef, undef, undef, undef, undef, undef, undef, undef, undef, undef, undef, undef, undef, undef, undef, undef, undef, undef, undef, undef, undef, undef]) Try.func14 rfl (hr) rfl fun E => ?_
  repeat' (first
    | with_reducible (first | refine Then.n ?_ | refine Then.r ?_ | refine Then.x ?_ | refine InB.n ?_ | refine InB.r ?_ | refine InB.hit ?_ | refine InB.miss (by decide) ?_)
    | ((with_reducible refine AL.on ?_); first
      | (refine AL.gd rfl ?_; first | (refine AL.gskip rfl rfl ?_; (refine AL.nm ?_)) | (refine AL.gs1 rfl rfl (fun hc => ?_) (fun hc => ?_) <;> (try replace hc := nc hc) <;> first | (exfalso; first | contradiction | (first | omega | (simp at hc; done)); done) | (refine AL.nm ?_)) | (refine AL.gs0 rfl rfl (fun hc => ?_) (fun hc => ?_) <;> (try replace hc := nc hc) <;> first | (exfalso; first | contradiction | (first | omega | (simp at hc; done)); done) | (refine AL.nm ?_)))
      | ((first | ((with_reducible refine AL.k_fieldAddr ?_); first | refine AL.q rfl (OQ.fieldA (ty := 38) (i := 0) (n := 1) (off := 0) (g := false) rfl kr (by decide)) ?_ | refine AL.q rfl (OQ.fieldA (ty := 38) (i := 1) (n := 1) (off := 1) (g := false) rfl kr (by decide)) ?_) | ((with_reducible refine AL.k_load ?_); first | (refine AL.q rfl (OQ.load1 (ty := 22) rfl kr wl) ?_) | (refine AL.q rfl (OQ.load1 (ty := 36) rfl kr wl) ?_)) | ((with_reducible refine AL.k_call ?_); first | refine AL.q rfl (OQ.lenS (xt := 36) (r := (none, 3, true)) rfl kr) ?_) | ((with_reducible refine AL.k_move ?_); first | (refine AL.q rfl (OQ.move wl) ?_)) | ((with_reducible refine AL.k_binOp ?_); first | refine AL.q rfl (OQ.leq rfl rfl) ?_ | refine AL.q rfl (OQ.gtr rfl rfl) ?_) | ((with_reducible refine AL.k_pick ?_); first | (refine AL.q rfl (OQ.pickT rfl (by with_reducible rfl) wl) ?_) | (refine AL.q rfl (OQ.pickF rfl (by with_reducible rfl) wl) ?_)) | ((with_reducible refine AL.k_assign ?_); first | (refine AL.q rfl (OQ.assign wl) ?_))); (refine AL.nm ?_))
      | ((first | first | refine AL.pcall (g := 7) rfl kr rfl ((by exact hF _ rfl)) ?_); (refine AL.nm ?_))
      | ((first | first | (refine AL.w rfl (OW.box wl (by intro r h; cases h)) ?_)); (refine AL.nm ?_); (refine AL.nM ?_))
      | (refine AL.bs rfl (fun hc => ?_) (fun hc => ?_) <;> (fail_if_success (with_reducible exact lit_no hc)) <;> (try replace hc := nc hc) <;> first | (exfalso; first | contradiction | (first | omega | (simp at hc; done)); done) | (refine AL.nm ?_))
      | refine AL.nil ?_)
    | ((with_reducible refine AW.on ?_); first
      | refine AW.seq ?_
      | refine AW.skip ?_
      | refine AW.exit ?_
      | refine AW.ret ?_
      | refine AW.block ?_
      | refine AW.region ?_
      | (refine AW.conds rfl (fun hc => ?_) (fun hc => ?_) <;> (try replace hc := nc hc) <;> first | (exfalso; first | contradiction | (first | omega | (simp at hc; done)); done) | skip))
    | ((with_reducible refine FinP.on ?_); (first | refine FinP.ret (.tmp wl .nil) ?_ rfl | refine FinP.end (.tmp wl .nil) ?_ rfl); (try simp only [pack, List.drop, List.take]); all_goals (first | rfl | (simp_all; done))))
theorem Light_b (v : Value) (l : List Pn) (ts : List T3) (c2 : Nat) (ht : (ts.length : Int) ≤ 9223372036854775807) (o1 o2 : Option Blk) (hr : Mem.ro [o1, o2]) (hF : ∀ m : Mem, m.at 0 = Mem.at [o1, o2] 0 → PCalls Try.prog 7 [v] m (.bool (fwB l.length))) : PCalls Try.prog 14 [.agg #[v, .slice (some ⟨1, 0, none⟩) ts.length c2]] [o1, o2] (.bool (liB l ts)) := by
  have hT0 : fwT ([] : List T3).length = true := by decide
  have t1 : (ts.length : Int) ≤ 14 → fwT ts.length = true := fun h => decide_eq_true (.inl h)
  have t2 : 14 < (ts.length : Int) → 80 < (ts.length : Int) → fwT ts.length = decide ((ts.length : Int) ≤ 82) := fun h h2 => by
    unfold fwT
    by_cases h3 : (ts.length : Int) ≤ 82
    · rw [decide_eq_true h3]; exact decide_eq_true (.inr ⟨h2, h3⟩)
    · rw [decide_eq_false h3]; exact decide_eq_false (by omega)
  have t3 : 14 < (ts.length : Int) → (ts.length : Int) ≤ 80 → fwT ts.length = false := fun h h2 => decide_eq_false (by omega)
  unfold liB
  generalize fwB l.length = B1 at *
  generalize fwT ts.length = B2 at *
  refine PCalls.enter (t := [.agg #[v, .slice (some ⟨1, 0, none⟩) ts.length c2], undef, undef, undef, undef, undef, undef, undef, undef, undef, undef, undef, undef, undef, undef, undef, undef, undef, undef, undef, undef, undef, undef, undef]) Try.func14 rfl (hr) rfl fun E => ?_
  repeat' (first
    | with_reducible (first | refine Then.n ?_ | refine Then.r ?_ | refine Then.x ?_ | refine InB.n ?_ | refine InB.r ?_ | refine InB.hit ?_ | refine InB.miss (by decide) ?_)
    | ((with_reducible refine AL.on ?_); first
      | (refine AL.gd rfl ?_; first | (refine AL.gskip rfl rfl ?_; (refine AL.nm ?_)) | (refine AL.gs1 rfl rfl (fun hc => ?_) (fun hc => ?_) <;> (try replace hc := nc hc) <;> first | (exfalso; first | contradiction | (first | omega | (simp at hc; done)); done) | (refine AL.nm ?_)) | (refine AL.gs0 rfl rfl (fun hc => ?_) (fun hc => ?_) <;> (try replace hc := nc hc) <;> first | (exfalso; first | contradiction | (first | omega | (simp at hc; done)); done) | (refine AL.nm ?_)))
      | ((first | ((with_reducible refine AL.k_fieldAddr ?_); first | refine AL.q rfl (OQ.fieldA (ty := 38) (i := 0) (n := 1) (off := 0) (g := false) rfl kr (by decide)) ?_ | refine AL.q rfl (OQ.fieldA (ty := 38) (i := 1) (n := 1) (off := 1) (g := false) rfl kr (by decide)) ?_) | ((with_reducible refine AL.k_load ?_); first | (refine AL.q rfl (OQ.load1 (ty := 22) rfl kr wl) ?_) | (refine AL.q rfl (OQ.load1 (ty := 36) rfl kr wl) ?_)) | ((with_reducible refine AL.k_call ?_); first | refine AL.q rfl (OQ.lenS (xt := 36) (r := (none, 3, true)) rfl kr) ?_) | ((with_reducible refine AL.k_move ?_); first | (refine AL.q rfl (OQ.move wl) ?_)) | ((with_reducible refine AL.k_binOp ?_); first | refine AL.q rfl (OQ.leq rfl rfl) ?_ | refine AL.q rfl (OQ.gtr rfl rfl) ?_) | ((with_reducible refine AL.k_pick ?_); first | (refine AL.q rfl (OQ.pickT rfl (by with_reducible rfl) wl) ?_) | (refine AL.q rfl (OQ.pickF rfl (by with_reducible rfl) wl) ?_)) | ((with_reducible refine AL.k_assign ?_); first | (refine AL.q rfl (OQ.assign wl) ?_))); (refine AL.nm ?_))
      | ((first | first | refine AL.pcall (g := 7) rfl kr rfl ((by exact hF _ rfl)) ?_); (refine AL.nm ?_))
      | ((first | first | (refine AL.w rfl (OW.box wl (by intro r h; cases h)) ?_)); (refine AL.nm ?_); (refine AL.nM ?_))
      | (refine AL.bs rfl (fun hc => ?_) (fun hc => ?_) <;> (fail_if_success (with_reducible exact lit_no hc)) <;> (try replace hc := nc hc) <;> first | (exfalso; first | contradiction | (first | omega | (simp at hc; done)); done) | (refine AL.nm ?_))
      | refine AL.nil ?_)
    | ((with_reducible refine AW.on ?_); first
      | refine AW.seq ?_
      | refine AW.skip ?_
      | refine AW.exit ?_
      | refine AW.ret ?_
      | refine AW.block ?_
      | refine AW.region ?_
      | (refine AW.conds rfl (fun hc => ?_) (fun hc => ?_) <;> (try replace hc := nc hc) <;> first | (exfalso; first | contradiction | (first | omega | (simp at hc; done)); done) | skip))
    | ((with_reducible refine FinP.on ?_); (first | refine FinP.ret (.tmp wl .nil) ?_ rfl | refine FinP.end (.tmp wl .nil) ?_ rfl); (try simp only [pack, List.drop, List.take]); all_goals (first | rfl | (rw [t1 (by omega)]; simp_all; done) | (rw [t2 (by omega) (by omega)]; simp_all; done) | (rw [t3 (by omega) (by omega)]; simp_all; done) | (simp_all; done))))
theorem Copy_ee (xa : Option Addr) (xb : Option Addr) : ACalls Try.prog 16 [.agg #[.slice xa 0 0, .slice xb 0 0]] [] (.agg #[.slice (some ⟨0, 0, none⟩) 0 0, .slice (some ⟨1, 0, none⟩) 0 0]) [some ⟨flatP [], true, 2⟩, some ⟨flatT [], true, 3⟩] := by
  refine ACalls.enter (t := [.agg #[.slice xa 0 0, .slice xb 0 0], undef, undef, undef, undef, undef, undef, undef, undef, undef, undef, undef]) Try.func16 rfl rfl fun E hE => ?_
  repeat' (first
    | with_reducible (first | refine Then.n ?_ | refine Then.r ?_ | refine Then.x ?_ | refine InB.n ?_ | refine InB.r ?_ | refine InB.hit ?_ | refine InB.miss (by decide) ?_)
    | ((with_reducible refine AL.on ?_); first
      | ((first | first | refine AL.q rfl (OQ.buildS (ty := 38) (zs := [.slice none 0 0, .slice none 0 0]) (pls := [(0, 1), (1, 1)]) kr rfl kr rfl rfl rfl) ?_); (refine AL.nm ?_))
      | ((first | ((with_reducible refine AL.k_call ?_); first | refine AL.q rfl (by first | exact (by exact OQ.append0 (v := undef) (st := 22) (e := 47) (z := 2) rfl rfl kr kr) | exact (by exact OQ.append0 (v := undef) (st := 36) (e := 79) (z := 3) rfl rfl kr kr)) ?_ | refine AL.w rfl rfl ?_) | ((with_reducible refine AL.k_box ?_); first | (refine AL.w rfl (OW.box wl (by intro r h; cases h)) ?_)) | ((with_reducible refine AL.k_alloc ?_); first | refine AL.w rfl (OW.alloc (ty := 38) (z := [.slice none 0 0, .slice none 0 0]) kr rfl) ?_) | ((with_reducible refine AL.k_store ?_); first | (refine AL.w rfl (OW.store (ty := 38) (n := 2) rfl wl rfl rfl kr rfl rfl (by decide) rfl (Nat.le_of_ble_eq_true rfl) (by intro r h; cases h)) ?_))); (refine AL.nm ?_); (refine AL.nM ?_))
      | refine AL.nil ?_)
    | ((with_reducible refine AW.on ?_); first
      | refine AW.seq ?_
      | refine AW.skip ?_
      | refine AW.exit ?_
      | refine AW.ret ?_
      | refine AW.block ?_
      | (refine AW.drawF (id := 1) 7 #[0, 0, 2, 7, 0, 0, 32, 127, 255, 511] kr kr ?_; (conv => (arg 8; simp only [List.take_succ_cons, List.take_zero])))
      | refine AW.region ?_
      | (refine AW.conds rfl (fun hc => ?_) (fun hc => ?_) <;> (try replace hc := nc hc) <;> first | (exfalso; first | contradiction | (first | omega | (simp at hc; done)); done) | skip))
    | ((with_reducible refine AF.on ?_); first
      | ((first | ((with_reducible refine AF.k_fieldAddr ?_); first | refine AF.q 0 (SW.q (OQ.fieldA (ty := 38) (i := 0) (n := 1) (off := 0) (g := false) rfl kr (by decide)) rfl) ?_ | refine AF.q 0 (SW.q (OQ.fieldA (ty := 38) (i := 1) (n := 1) (off := 1) (g := false) rfl kr (by decide)) rfl) ?_) | ((with_reducible refine AF.k_load ?_); first | (refine AF.ql rfl (SW.q (OQ.load1 (ty := 22) rfl kr wl) rfl) ?_) | (refine AF.ql rfl (SW.q (OQ.load1 (ty := 36) rfl kr wl) rfl) ?_))); (conv => (arg 9; try tactic => exact nrmF)); (conv => (arg 11; try simp only [List.nil_append, List.cons_append])))
      | ((first | ((with_reducible refine AF.k_buildSlice ?_); first | refine AF.n1 0 (SW.w (OW.buildSl0 (ty := 22) (z := (none, 2, true)) kr) rfl) rfl ?_ | refine AF.n1 0 (SW.w (OW.buildSl0 (ty := 36) (z := (none, 3, true)) kr) rfl) rfl ?_) | ((with_reducible refine AF.k_call ?_); first | refine AF.al rfl (SW.w rfl rfl) rfl ?_ | refine AF.q 2 (SW.q (by first | exact (by exact OQ.append0 (v := undef) (st := 22) (e := 47) (z := 2) rfl rfl kr kr) | exact (by exact OQ.append0 (v := undef) (st := 36) (e := 79) (z := 3) rfl rfl kr kr)) rfl) ?_ | refine AF.n1 2 (SW.w rfl rfl) rfl ?_)); (conv => (arg 9; try tactic => exact nrmF)); (conv => (arg 11; try simp only [List.nil_append, List.cons_append])); (conv => (arg 10; try tactic => exact nrmF)))
      | (refine AF.nil ?_ kr; (conv => (arg 4; simp only [List.drop_succ_cons, List.drop_zero, List.drop_nil]))))
    | ((with_reducible refine FinA.on ?_); (refine FinA.keep 0 [2, 3] (.inl rfl) (.cellN (n := 2) wl kr kr rfl .nil) ?_ rfl (Nat.le_of_eq hE) rfl rfl ⟨⟨_, rfl, rfl, rfl, .inl ⟨rfl, flatP_scal _⟩⟩, ⟨_, rfl, rfl, rfl, .inl ⟨rfl, flatT_scal _⟩⟩, trivial⟩; rfl)))
theorem Copy_eb (xa : Option Addr) (ts : List T3) (c2 z1 : Nat) (ht : ts.length ≤ 1000000) (h1 : 0 < ts.length) : ACalls Try.prog 16 [.agg #[.slice xa 0 0, .slice (some ⟨0, 0, none⟩) ts.length c2]] [some ⟨flatT ts, false, z1⟩] (.agg #[.slice (some ⟨1, 0, none⟩) 0 0, .slice (some ⟨2, 0, none⟩) ts.length INF]) [some ⟨flatT ts, false, z1⟩, some ⟨flatP [], true, 2⟩, some ⟨flatT ts, true, 3⟩] := by
  have hlen2 : 0 + ts.length = ts.length := Nat.zero_add _
  refine ACalls.enter (t := [.agg #[.slice xa 0 0, .slice (some ⟨0, 0, none⟩) ts.length c2], undef, undef, undef, undef, undef, undef, undef, undef, undef, undef, undef]) Try.func16 rfl rfl fun E hE => ?_
  repeat' (first
    | with_reducible (first | refine Then.n ?_ | refine Then.r ?_ | refine Then.x ?_ | refine InB.n ?_ | refine InB.r ?_ | refine InB.hit ?_ | refine InB.miss (by decide) ?_)
    | ((with_reducible refine AL.on ?_); first
      | ((first | first | refine AL.q rfl (OQ.buildS (ty := 38) (zs := [.slice none 0 0, .slice none 0 0]) (pls := [(0, 1), (1, 1)]) kr rfl kr rfl rfl rfl) ?_); (refine AL.nm ?_))
      | ((first | ((with_reducible refine AL.k_call ?_); first | refine AL.q rfl (by exact OQ.append0 (v := undef) (st := 22) (e := 47) (z := 2) rfl rfl kr kr) ?_ | refine AL.w rfl (OW.append (n := 0) (c := 0) (b := 4) (blk := ⟨[], true, 3⟩) (z := 3) (by' := 24) (zs := [.int .i64 0, .int .i64 0, .int .i64 0]) (e := 79) rfl rfl kr kr kr rfl kr (by omega) rfl rfl rfl (by decide) (Nat.le_refl _) (ldT rfl rfl rfl) (flatT_one _) (by omega) (by omega)) ?_) | ((with_reducible refine AL.k_box ?_); first | (refine AL.w rfl (OW.box wl (by intro r h; cases h)) ?_)) | ((with_reducible refine AL.k_alloc ?_); first | refine AL.w rfl (OW.alloc (ty := 38) (z := [.slice none 0 0, .slice none 0 0]) kr rfl) ?_) | ((with_reducible refine AL.k_store ?_); first | (refine AL.w rfl (OW.store (ty := 38) (n := 2) rfl wl rfl rfl kr rfl rfl (by decide) rfl (Nat.le_of_ble_eq_true rfl) (by intro r h; cases h)) ?_))); (refine AL.nm ?_); (refine AL.nM ?_))
      | refine AL.nil ?_)
    | ((with_reducible refine AW.on ?_); first
      | refine AW.seq ?_
      | refine AW.skip ?_
      | refine AW.exit ?_
      | refine AW.ret ?_
      | refine AW.block ?_
      | (refine AW.drawF (id := 1) 7 #[0, 0, 2, 7, 0, 0, 32, 127, 255, 511] kr kr ?_; (conv => (arg 8; simp only [List.take_succ_cons, List.take_zero])))
      | refine AW.region ?_
      | (refine AW.conds rfl (fun hc => ?_) (fun hc => ?_) <;> (try replace hc := nc hc) <;> first | (exfalso; first | contradiction | (first | omega | (simp at hc; done)); done) | skip))
    | ((with_reducible refine AF.on ?_); first
      | ((first | ((with_reducible refine AF.k_fieldAddr ?_); first | refine AF.q 0 (SW.q (OQ.fieldA (ty := 38) (i := 0) (n := 1) (off := 0) (g := false) rfl kr (by decide)) rfl) ?_ | refine AF.q 0 (SW.q (OQ.fieldA (ty := 38) (i := 1) (n := 1) (off := 1) (g := false) rfl kr (by decide)) rfl) ?_) | ((with_reducible refine AF.k_load ?_); first | (refine AF.ql rfl (SW.q (OQ.load1 (ty := 22) rfl kr wl) rfl) ?_) | (refine AF.ql rfl (SW.q (OQ.load1 (ty := 36) rfl kr wl) rfl) ?_))); (conv => (arg 9; try tactic => exact nrmF)); (conv => (arg 11; try simp only [List.nil_append, List.cons_append])))
      | ((first | ((with_reducible refine AF.k_buildSlice ?_); first | refine AF.n1 0 (SW.w (OW.buildSl0 (ty := 22) (z := (none, 2, true)) kr) rfl) rfl ?_ | refine AF.n1 0 (SW.w (OW.buildSl0 (ty := 36) (z := (none, 3, true)) kr) rfl) rfl ?_) | ((with_reducible refine AF.k_call ?_); first | refine AF.al rfl (SW.w (OW.append (n := 0) (c := 0) (b := 4) (blk := ⟨[], true, 3⟩) (z := 3) (by' := 24) (zs := [.int .i64 0, .int .i64 0, .int .i64 0]) (e := 79) rfl rfl kr kr kr rfl kr (by omega) rfl rfl rfl (by decide) (Nat.le_refl _) (ldT rfl rfl rfl) (flatT_one _) (by omega) (by omega)) rfl) rfl ?_ | refine AF.q 2 (SW.q (by exact OQ.append0 (v := undef) (st := 22) (e := 47) (z := 2) rfl rfl kr kr) rfl) ?_ | refine AF.n1 2 (SW.w (OW.append (n := 0) (c := 0) (b := 4) (blk := ⟨[], true, 3⟩) (z := 3) (by' := 24) (zs := [.int .i64 0, .int .i64 0, .int .i64 0]) (e := 79) rfl rfl kr kr kr rfl kr (by omega) rfl rfl rfl (by decide) (Nat.le_refl _) (ldT rfl rfl rfl) (flatT_one _) (by omega) (by omega)) rfl) rfl ?_)); (conv => (arg 9; try tactic => exact nrmF)); (conv => (arg 11; try simp only [List.nil_append, List.cons_append])); (conv => (arg 10; try tactic => exact nrmF)))
      | (refine AF.nil ?_ kr; (conv => (arg 4; simp only [List.drop_succ_cons, List.drop_zero, List.drop_nil]))))
    | ((with_reducible refine FinA.on ?_); (rw [← hlen2]; refine FinA.keep 1 [3, 5] (.inl rfl) (.cellN (n := 2) wl kr kr rfl .nil) ?_ rfl (Nat.le_of_eq hE) rfl rfl ⟨⟨_, rfl, rfl, rfl, .inl ⟨rfl, flatT_scal _⟩⟩, ⟨_, rfl, rfl, rfl, .inl ⟨rfl, flatP_scal _⟩⟩, ⟨_, rfl, rfl, rfl, .inl ⟨rfl, flatT_scal _⟩⟩, trivial⟩; rfl)))
theorem Copy_be (l : List Pn) (c z : Nat) (hl : l.length ≤ 1000000) (h0 : 0 < l.length) (xb : Option Addr) : ACalls Try.prog 16 [.agg #[.slice (some ⟨0, 0, none⟩) l.length c, .slice xb 0 0]] [some ⟨flatP l, false, z⟩] (.agg #[.slice (some ⟨1, 0, none⟩) l.length INF, .slice (some ⟨2, 0, none⟩) 0 0]) [some ⟨flatP l, false, z⟩, some ⟨flatP l, true, 2⟩, some ⟨flatT [], true, 3⟩] := by
  have hlen : 0 + l.length = l.length := Nat.zero_add _
  refine ACalls.enter (t := [.agg #[.slice (some ⟨0, 0, none⟩) l.length c, .slice xb 0 0], undef, undef, undef, undef, undef, undef, undef, undef, undef, undef, undef]) Try.func16 rfl rfl fun E hE => ?_
  repeat' (first
    | with_reducible (first | refine Then.n ?_ | refine Then.r ?_ | refine Then.x ?_ | refine InB.n ?_ | refine InB.r ?_ | refine InB.hit ?_ | refine InB.miss (by decide) ?_)
    | ((with_reducible refine AL.on ?_); first
      | ((first | first | refine AL.q rfl (OQ.buildS (ty := 38) (zs := [.slice none 0 0, .slice none 0 0]) (pls := [(0, 1), (1, 1)]) kr rfl kr rfl rfl rfl) ?_); (refine AL.nm ?_))
      | ((first | ((with_reducible refine AL.k_call ?_); first | refine AL.q rfl (by exact OQ.append0 (v := undef) (st := 36) (e := 79) (z := 3) rfl rfl kr kr) ?_ | refine AL.w rfl (OW.append (n := 0) (c := 0) (b := 3) (blk := ⟨[], true, 2⟩) (z := 2) (by' := 16) (zs := [.int .i64 0, .int .i64 0]) (e := 47) rfl rfl kr kr kr rfl kr (by omega) rfl rfl rfl (by decide) (Nat.le_refl _) (ldP rfl rfl rfl) (flatP_one _) (by omega) (by omega)) ?_) | ((with_reducible refine AL.k_box ?_); first | (refine AL.w rfl (OW.box wl (by intro r h; cases h)) ?_)) | ((with_reducible refine AL.k_alloc ?_); first | refine AL.w rfl (OW.alloc (ty := 38) (z := [.slice none 0 0, .slice none 0 0]) kr rfl) ?_) | ((with_reducible refine AL.k_store ?_); first | (refine AL.w rfl (OW.store (ty := 38) (n := 2) rfl wl rfl rfl kr rfl rfl (by decide) rfl (Nat.le_of_ble_eq_true rfl) (by intro r h; cases h)) ?_))); (refine AL.nm ?_); (refine AL.nM ?_))
      | refine AL.nil ?_)
    | ((with_reducible refine AW.on ?_); first
      | refine AW.seq ?_
      | refine AW.skip ?_
      | refine AW.exit ?_
      | refine AW.ret ?_
      | refine AW.block ?_
      | (refine AW.drawF (id := 1) 7 #[0, 0, 2, 7, 0, 0, 32, 127, 255, 511] kr kr ?_; (conv => (arg 8; simp only [List.take_succ_cons, List.take_zero])))
      | refine AW.region ?_
      | (refine AW.conds rfl (fun hc => ?_) (fun hc => ?_) <;> (try replace hc := nc hc) <;> first | (exfalso; first | contradiction | (first | omega | (simp at hc; done)); done) | skip))
    | ((with_reducible refine AF.on ?_); first
      | ((first | ((with_reducible refine AF.k_fieldAddr ?_); first | refine AF.q 0 (SW.q (OQ.fieldA (ty := 38) (i := 0) (n := 1) (off := 0) (g := false) rfl kr (by decide)) rfl) ?_ | refine AF.q 0 (SW.q (OQ.fieldA (ty := 38) (i := 1) (n := 1) (off := 1) (g := false) rfl kr (by decide)) rfl) ?_) | ((with_reducible refine AF.k_load ?_); first | (refine AF.ql rfl (SW.q (OQ.load1 (ty := 22) rfl kr wl) rfl) ?_) | (refine AF.ql rfl (SW.q (OQ.load1 (ty := 36) rfl kr wl) rfl) ?_))); (conv => (arg 9; try tactic => exact nrmF)); (conv => (arg 11; try simp only [List.nil_append, List.cons_append])))
      | ((first | ((with_reducible refine AF.k_buildSlice ?_); first | refine AF.n1 0 (SW.w (OW.buildSl0 (ty := 22) (z := (none, 2, true)) kr) rfl) rfl ?_ | refine AF.n1 0 (SW.w (OW.buildSl0 (ty := 36) (z := (none, 3, true)) kr) rfl) rfl ?_) | ((with_reducible refine AF.k_call ?_); first | refine AF.al rfl (SW.w (OW.append (n := 0) (c := 0) (b := 3) (blk := ⟨[], true, 2⟩) (z := 2) (by' := 16) (zs := [.int .i64 0, .int .i64 0]) (e := 47) rfl rfl kr kr kr rfl kr (by omega) rfl rfl rfl (by decide) (Nat.le_refl _) (ldP rfl rfl rfl) (flatP_one _) (by omega) (by omega)) rfl) rfl ?_ | refine AF.q 2 (SW.q (by exact OQ.append0 (v := undef) (st := 36) (e := 79) (z := 3) rfl rfl kr kr) rfl) ?_ | refine AF.n1 2 (SW.w (OW.append (n := 0) (c := 0) (b := 3) (blk := ⟨[], true, 2⟩) (z := 2) (by' := 16) (zs := [.int .i64 0, .int .i64 0]) (e := 47) rfl rfl kr kr kr rfl kr (by omega) rfl rfl rfl (by decide) (Nat.le_refl _) (ldP rfl rfl rfl) (flatP_one _) (by omega) (by omega)) rfl) rfl ?_)); (conv => (arg 9; try tactic => exact nrmF)); (conv => (arg 11; try simp only [List.nil_append, List.cons_append])); (conv => (arg 10; try tactic => exact nrmF)))
      | (refine AF.nil ?_ kr; (conv => (arg 4; simp only [List.drop_succ_cons, List.drop_zero, List.drop_nil]))))
    | ((with_reducible refine FinA.on ?_); (rw [← hlen]; refine FinA.keep 1 [4, 5] (.inl rfl) (.cellN (n := 2) wl kr kr rfl .nil) ?_ rfl (Nat.le_of_eq hE) rfl rfl ⟨⟨_, rfl, rfl, rfl, .inl ⟨rfl, flatP_scal _⟩⟩, ⟨_, rfl, rfl, rfl, .inl ⟨rfl, flatP_scal _⟩⟩, ⟨_, rfl, rfl, rfl, .inl ⟨rfl, flatT_scal _⟩⟩, trivial⟩; rfl)))
theorem Copy_bb (l : List Pn) (c z : Nat) (hl : l.length ≤ 1000000) (h0 : 0 < l.length) (ts : List T3) (c2 z1 : Nat) (ht : ts.length ≤ 1000000) (h1 : 0 < ts.length) : ACalls Try.prog 16 [.agg #[.slice (some ⟨0, 0, none⟩) l.length c, .slice (some ⟨1, 0, none⟩) ts.length c2]] [some ⟨flatP l, false, z⟩, some ⟨flatT ts, false, z1⟩] (.agg #[.slice (some ⟨2, 0, none⟩) l.length INF, .slice (some ⟨3, 0, none⟩) ts.length INF]) [some ⟨flatP l, false, z⟩, some ⟨flatT ts, false, z1⟩, some ⟨flatP l, true, 2⟩, some ⟨flatT ts, true, 3⟩] := by
  have hlen : 0 + l.length = l.length := Nat.zero_add _
  have hlen2 : 0 + ts.length = ts.length := Nat.zero_add _
  refine ACalls.enter (t := [.agg #[.slice (some ⟨0, 0, none⟩) l.length c, .slice (some ⟨1, 0, none⟩) ts.length c2], undef, undef, undef, undef, undef, undef, undef, undef, undef, undef, undef]) Try.func16 rfl rfl fun E hE => ?_
  repeat' (first
    | with_reducible (first | refine Then.n ?_ | refine Then.r ?_ | refine Then.x ?_ | refine InB.n ?_ | refine InB.r ?_ | refine InB.hit ?_ | refine InB.miss (by decide) ?_)
    | ((with_reducible refine AL.on ?_); first
      | ((first | first | refine AL.q rfl (OQ.buildS (ty := 38) (zs := [.slice none 0 0, .slice none 0 0]) (pls := [(0, 1), (1, 1)]) kr rfl kr rfl rfl rfl) ?_); (refine AL.nm ?_))
      | ((first | ((with_reducible refine AL.k_call ?_); first | refine AL.w rfl (by first | exact (OW.append (n := 0) (c := 0) (b := 4) (blk := ⟨[], true, 2⟩) (z := 2) (by' := 16) (zs := [.int .i64 0, .int .i64 0]) (e := 47) rfl rfl kr kr kr rfl kr (by omega) rfl rfl rfl (by decide) (Nat.le_refl _) (ldP rfl rfl rfl) (flatP_one _) (by omega) (by omega)) | exact (OW.append (n := 0) (c := 0) (b := 6) (blk := ⟨[], true, 3⟩) (z := 3) (by' := 24) (zs := [.int .i64 0, .int .i64 0, .int .i64 0]) (e := 79) rfl rfl kr kr kr rfl kr (by omega) rfl rfl rfl (by decide) (Nat.le_refl _) (ldT rfl rfl rfl) (flatT_one _) (by omega) (by omega))) ?_) | ((with_reducible refine AL.k_box ?_); first | (refine AL.w rfl (OW.box wl (by intro r h; cases h)) ?_)) | ((with_reducible refine AL.k_alloc ?_); first | refine AL.w rfl (OW.alloc (ty := 38) (z := [.slice none 0 0, .slice none 0 0]) kr rfl) ?_) | ((with_reducible refine AL.k_store ?_); first | (refine AL.w rfl (OW.store (ty := 38) (n := 2) rfl wl rfl rfl kr rfl rfl (by decide) rfl (Nat.le_of_ble_eq_true rfl) (by intro r h; cases h)) ?_))); (refine AL.nm ?_); (refine AL.nM ?_))
      | refine AL.nil ?_)
    | ((with_reducible refine AW.on ?_); first
      | refine AW.seq ?_
      | refine AW.skip ?_
      | refine AW.exit ?_
      | refine AW.ret ?_
      | refine AW.block ?_
      | (refine AW.drawF (id := 1) 7 #[0, 0, 2, 7, 0, 0, 32, 127, 255, 511] kr kr ?_; (conv => (arg 8; simp only [List.take_succ_cons, List.take_zero])))
      | refine AW.region ?_
      | (refine AW.conds rfl (fun hc => ?_) (fun hc => ?_) <;> (try replace hc := nc hc) <;> first | (exfalso; first | contradiction | (first | omega | (simp at hc; done)); done) | skip))
    | ((with_reducible refine AF.on ?_); first
      | ((first | ((with_reducible refine AF.k_fieldAddr ?_); first | refine AF.q 0 (SW.q (OQ.fieldA (ty := 38) (i := 0) (n := 1) (off := 0) (g := false) rfl kr (by decide)) rfl) ?_ | refine AF.q 0 (SW.q (OQ.fieldA (ty := 38) (i := 1) (n := 1) (off := 1) (g := false) rfl kr (by decide)) rfl) ?_) | ((with_reducible refine AF.k_load ?_); first | (refine AF.ql rfl (SW.q (OQ.load1 (ty := 22) rfl kr wl) rfl) ?_) | (refine AF.ql rfl (SW.q (OQ.load1 (ty := 36) rfl kr wl) rfl) ?_))); (conv => (arg 9; try tactic => exact nrmF)); (conv => (arg 11; try simp only [List.nil_append, List.cons_append])))
      | ((first | ((with_reducible refine AF.k_buildSlice ?_); first | refine AF.n1 0 (SW.w (OW.buildSl0 (ty := 22) (z := (none, 2, true)) kr) rfl) rfl ?_ | refine AF.n1 0 (SW.w (OW.buildSl0 (ty := 36) (z := (none, 3, true)) kr) rfl) rfl ?_) | ((with_reducible refine AF.k_call ?_); first | refine AF.al rfl (SW.w (by first | exact (OW.append (n := 0) (c := 0) (b := 4) (blk := ⟨[], true, 2⟩) (z := 2) (by' := 16) (zs := [.int .i64 0, .int .i64 0]) (e := 47) rfl rfl kr kr kr rfl kr (by omega) rfl rfl rfl (by decide) (Nat.le_refl _) (ldP rfl rfl rfl) (flatP_one _) (by omega) (by omega)) | exact (OW.append (n := 0) (c := 0) (b := 6) (blk := ⟨[], true, 3⟩) (z := 3) (by' := 24) (zs := [.int .i64 0, .int .i64 0, .int .i64 0]) (e := 79) rfl rfl kr kr kr rfl kr (by omega) rfl rfl rfl (by decide) (Nat.le_refl _) (ldT rfl rfl rfl) (flatT_one _) (by omega) (by omega))) rfl) rfl ?_ | refine AF.n1 2 (SW.w (by first | exact (OW.append (n := 0) (c := 0) (b := 4) (blk := ⟨[], true, 2⟩) (z := 2) (by' := 16) (zs := [.int .i64 0, .int .i64 0]) (e := 47) rfl rfl kr kr kr rfl kr (by omega) rfl rfl rfl (by decide) (Nat.le_refl _) (ldP rfl rfl rfl) (flatP_one _) (by omega) (by omega)) | exact (OW.append (n := 0) (c := 0) (b := 6) (blk := ⟨[], true, 3⟩) (z := 3) (by' := 24) (zs := [.int .i64 0, .int .i64 0, .int .i64 0]) (e := 79) rfl rfl kr kr kr rfl kr (by omega) rfl rfl rfl (by decide) (Nat.le_refl _) (ldT rfl rfl rfl) (flatT_one _) (by omega) (by omega))) rfl) rfl ?_)); (conv => (arg 9; try tactic => exact nrmF)); (conv => (arg 11; try simp only [List.nil_append, List.cons_append])); (conv => (arg 10; try tactic => exact nrmF)))
      | (refine AF.nil ?_ kr; (conv => (arg 4; simp only [List.drop_succ_cons, List.drop_zero, List.drop_nil]))))
    | ((with_reducible refine FinA.on ?_); (rw [← hlen, ← hlen2]; refine FinA.keep 2 [5, 7] (.inl rfl) (.cellN (n := 2) wl kr kr rfl .nil) ?_ rfl (Nat.le_of_eq hE) rfl rfl ⟨⟨_, rfl, rfl, rfl, .inl ⟨rfl, flatP_scal _⟩⟩, ⟨_, rfl, rfl, rfl, .inl ⟨rfl, flatT_scal _⟩⟩, ⟨_, rfl, rfl, rfl, .inl ⟨rfl, flatP_scal _⟩⟩, ⟨_, rfl, rfl, rfl, .inl ⟨rfl, flatT_scal _⟩⟩, trivial⟩; rfl)))
end Go.Proofs.Ytmohcmghbfhdlaa
end
end
/- Chapter 6: lists of any form as arguments; Light and the copy of a net. -/
section
set_option linter.unusedSimpArgs false
set_option linter.unusedVariables false
section
namespace Go.Me
open Go.Ab
inductive SlV (m : Mem) (i : Nat) (v : Value) (cs : List Value) (n : Nat) : Prop
  | blk (k : Blk) (h0 : 0 < n) (hv : v = .slice (some ⟨i, 0, none⟩) n INF) (h : m.at i = some k) (hc : k.cells = cs) (ho : k.obj = Ob.plain)
  | nil (hl : n = 0) (hv : v = .slice none 0 0)
  | lost (hl : n = 0) (hv : v = lostV)
theorem SlV.of {m m' : Mem} {i : Nat} {v : Value} {cs : List Value} {n : Nat} (h : SlV m i v cs n) (he : m'.at i = m.at i) : SlV m' i v cs n := by
  rcases h with ⟨k, h0, h1, h2, h3, h4⟩ | ⟨h1, h2⟩ | ⟨h1, h2⟩
  · exact .blk k h0 h1 (he.trans h2) h3 h4
  · exact .nil h1 h2
  · exact .lost h1 h2
theorem SlV.arg {m : Mem} {i n : Nat} {z : Bool} {cs : List Value} (h : m.at i = Ls.blX cs) (hn : cs = [] ↔ n = 0) : SlV m i (Ls.vaX i n z) cs n := by
  unfold Ls.vaX
  by_cases hl : n = 0
  · rw [if_pos hl]
    cases z
    · exact .lost hl rfl
    · exact .nil hl rfl
  · rw [if_neg hl]
    unfold Ls.blX at h
    rw [if_neg (fun h => hl (hn.1 h))] at h
    exact .blk _ (by omega) rfl h rfl rfl
theorem SlV.pos {m : Mem} {i : Nat} {v : Value} {cs : List Value} {n : Nat} (h : SlV m i v cs n) (h0 : 0 < n) : v = .slice (some ⟨i, 0, none⟩) n INF ∧ ∃ k : Blk, m.at i = some k ∧ k.cells = cs ∧ k.obj = Ob.plain := by
  rcases h with ⟨k, h0, h1, h2, h3, h4⟩ | ⟨h1, h2⟩ | ⟨h1, h2⟩
  · exact ⟨h1, k, h2, h3, h4⟩
  · omega
  · omega
end Go.Me
namespace Go.Proofs.Ytmohcmghbfhdlaa
open Go Go.RowKit Go.Ab Go.Me
set_option maxRecDepth 100000
theorem Light_g {m : Mem} {i j : Nat} {v w : Value} {l : List Pn} {ts : List T3} (h1 : SlV m i v (flatP l) l.length) (h2 : SlV m j w (flatT ts) ts.length) (hl : (l.length : Int) ≤ 9223372036854775807) (ht : (ts.length : Int) ≤ 9223372036854775807) : PCalls Try.prog 14 [.agg #[v, w]] m (.bool (liB l ts)) := by
  have hb := fun (z : Nat) (o : Option Blk) (m : Mem) (e : m.at 0 = Mem.at [some ⟨flatP l, false, z⟩, o] 0) => few_bg (c := INF) (n := l.length) l (m := m) (b := 0) e rfl rfl hl rfl
  have hn := fun (o1 o2 : Option Blk) (m : Mem) (_ : m.at 0 = Mem.at [o1, o2] 0) => few_ng m
  have h5 := fun (o1 o2 : Option Blk) (m : Mem) (_ : m.at 0 = Mem.at [o1, o2] 0) => few_l5 m
  have rn : Mem.ro [none, none] := fun b blk h => by
    match b, h with
    | 0, h => cases h
    | 1, h => cases h
  have vac : ∀ (τ : Nat → Nat), Lies [none, none] m τ := fun τ b blk h => by
    match b, h with
    | 0, h => cases h
    | 1, h => cases h
  rcases h1 with ⟨A, a0, rfl, a1, a2, a3⟩ | ⟨a1, rfl⟩ | ⟨a1, rfl⟩ <;> rcases h2 with ⟨B, b0, rfl, b1, b2, b3⟩ | ⟨b1, rfl⟩ | ⟨b1, rfl⟩
  · exact PCalls.viaS [i, j] (Light_b (.slice (some ⟨0, 0, none⟩) l.length INF) l ts INF ht (some ⟨flatP l, false, A.esz⟩) (some ⟨flatT ts, false, B.esz⟩) (ro2p _ _ rfl rfl) (hb _ _)) (ro2p _ _ rfl rfl) ⟨⟨_, a1, by unfold Blk.shp Blk.shpR; rw [a3]; rfl, (fun h => nomatch h), .inl ⟨a2, flatP_scal _⟩⟩, ⟨_, b1, by unfold Blk.shp Blk.shpR; rw [b3]; rfl, (fun h => nomatch h), .inl ⟨b2, flatT_scal _⟩⟩, trivial⟩ rfl rfl rfl rfl
  · obtain rfl := List.eq_nil_of_length_eq_zero b1
    exact PCalls.viaS [i, i] (Light_e (.slice (some ⟨0, 0, none⟩) l.length INF) l none (some ⟨flatP l, false, A.esz⟩) (some ⟨flatP l, false, A.esz⟩) (ro2p _ _ rfl rfl) (hb _ _)) (ro2p _ _ rfl rfl) ⟨⟨_, a1, by unfold Blk.shp Blk.shpR; rw [a3]; rfl, (fun h => nomatch h), .inl ⟨a2, flatP_scal _⟩⟩, ⟨_, a1, by unfold Blk.shp Blk.shpR; rw [a3]; rfl, (fun h => nomatch h), .inl ⟨a2, flatP_scal _⟩⟩, trivial⟩ rfl rfl rfl rfl
  · obtain rfl := List.eq_nil_of_length_eq_zero b1
    exact PCalls.viaS [i, i] (Light_e (.slice (some ⟨0, 0, none⟩) l.length INF) l (some ⟨5, 0, some default⟩) (some ⟨flatP l, false, A.esz⟩) (some ⟨flatP l, false, A.esz⟩) (ro2p _ _ rfl rfl) (hb _ _)) (ro2p _ _ rfl rfl) ⟨⟨_, a1, by unfold Blk.shp Blk.shpR; rw [a3]; rfl, (fun h => nomatch h), .inl ⟨a2, flatP_scal _⟩⟩, ⟨_, a1, by unfold Blk.shp Blk.shpR; rw [a3]; rfl, (fun h => nomatch h), .inl ⟨a2, flatP_scal _⟩⟩, trivial⟩ rfl rfl rfl rfl
  · obtain rfl := List.eq_nil_of_length_eq_zero a1
    exact PCalls.viaS [j, j] (Light_b (.slice none 0 0) [] ts INF ht (some ⟨flatT ts, false, B.esz⟩) (some ⟨flatT ts, false, B.esz⟩) (ro2p _ _ rfl rfl) (hn _ _)) (ro2p _ _ rfl rfl) ⟨⟨_, b1, by unfold Blk.shp Blk.shpR; rw [b3]; rfl, (fun h => nomatch h), .inl ⟨b2, flatT_scal _⟩⟩, ⟨_, b1, by unfold Blk.shp Blk.shpR; rw [b3]; rfl, (fun h => nomatch h), .inl ⟨b2, flatT_scal _⟩⟩, trivial⟩ rfl rfl rfl rfl
  · obtain rfl := List.eq_nil_of_length_eq_zero a1
    obtain rfl := List.eq_nil_of_length_eq_zero b1
    exact PCalls.via (fun _ => 0) (Light_e (.slice none 0 0) [] none none none rn (hn _ _)) (vac _) rfl rfl rfl rfl
  · obtain rfl := List.eq_nil_of_length_eq_zero a1
    obtain rfl := List.eq_nil_of_length_eq_zero b1
    exact PCalls.via (fun _ => 0) (Light_e (.slice none 0 0) [] (some ⟨5, 0, some default⟩) none none rn (hn _ _)) (vac _) rfl rfl rfl rfl
  · obtain rfl := List.eq_nil_of_length_eq_zero a1
    exact PCalls.viaS [j, j] (Light_b (.slice (some ⟨5, 0, some default⟩) 0 0) [] ts INF ht (some ⟨flatT ts, false, B.esz⟩) (some ⟨flatT ts, false, B.esz⟩) (ro2p _ _ rfl rfl) (h5 _ _)) (ro2p _ _ rfl rfl) ⟨⟨_, b1, by unfold Blk.shp Blk.shpR; rw [b3]; rfl, (fun h => nomatch h), .inl ⟨b2, flatT_scal _⟩⟩, ⟨_, b1, by unfold Blk.shp Blk.shpR; rw [b3]; rfl, (fun h => nomatch h), .inl ⟨b2, flatT_scal _⟩⟩, trivial⟩ rfl rfl rfl rfl
  · obtain rfl := List.eq_nil_of_length_eq_zero a1
    obtain rfl := List.eq_nil_of_length_eq_zero b1
    exact PCalls.via (fun _ => 0) (Light_e (.slice (some ⟨5, 0, some default⟩) 0 0) [] none none none rn (h5 _ _)) (vac _) rfl rfl rfl rfl
  · obtain rfl := List.eq_nil_of_length_eq_zero a1
    obtain rfl := List.eq_nil_of_length_eq_zero b1
    exact PCalls.via (fun _ => 0) (Light_e (.slice (some ⟨5, 0, some default⟩) 0 0) [] (some ⟨5, 0, some default⟩) none none rn (h5 _ _)) (vac _) rfl rfl rfl rfl
abbrev cpV (k : Nat) (l : List Pn) (ts : List T3) : Value := .agg #[.slice (some ⟨k, 0, none⟩) l.length (cpC l.length), .slice (some ⟨k + 1, 0, none⟩) ts.length (cpC ts.length)]
abbrev cpM (l : List Pn) (ts : List T3) : Mem := [some ⟨flatP l, true, 2⟩, some ⟨flatT ts, true, 3⟩]
theorem Copy_g {m : Mem} {i j : Nat} {v w : Value} {l : List Pn} {ts : List T3} (hij : i ≠ j) (h1 : SlV m i v (flatP l) l.length) (h2 : SlV m j w (flatT ts) ts.length) (hl : l.length ≤ 1000000) (ht : ts.length ≤ 1000000) : ACalls Try.prog 16 [.agg #[v, w]] m (cpV m.length l ts) (m ++ cpM l ts) := by
  have c0 : cpC 0 = 0 := rfl
  have cP : ∀ n, 0 < n → cpC n = INF := fun n h => if_neg (by omega)
  have o1 : ∀ σ : Nat → Nat, True := fun _ => trivial
  rcases h1 with ⟨A, a0, rfl, a1, a2, a3⟩ | ⟨a1, rfl⟩ | ⟨a1, rfl⟩ <;> rcases h2 with ⟨B, b0, rfl, b1, b2, b3⟩ | ⟨b1, rfl⟩ | ⟨b1, rfl⟩
  · unfold cpV
    rw [cP _ a0, cP _ b0]
    exact ACalls.viaS (v := .agg #[.slice (some ⟨m.length, 0, none⟩) l.length INF, .slice (some ⟨m.length + 1, 0, none⟩) ts.length INF]) [i, j] [] (cpM l ts) (Copy_bb l INF A.esz hl a0 ts INF B.esz ht b0) ⟨⟨_, a1, by unfold Blk.shp Blk.shpR; rw [a3]; rfl, (fun h => nomatch h), .inl ⟨a2, flatP_scal _⟩⟩, ⟨_, b1, by unfold Blk.shp Blk.shpR; rw [b3]; rfl, (fun h => nomatch h), .inl ⟨b2, flatT_scal _⟩⟩, trivial⟩ (by simpa using hij) ⟨⟨_, rfl, rfl⟩, ⟨_, rfl, rfl⟩, ⟨rfl, rfl, rfl, .inl ⟨rfl, flatP_scal _⟩⟩, ⟨rfl, rfl, rfl, .inl ⟨rfl, flatT_scal _⟩⟩, trivial⟩ rfl rfl rfl rfl
  · obtain rfl := List.eq_nil_of_length_eq_zero b1
    unfold cpV
    rw [cP _ a0]
    exact ACalls.viaS (v := .agg #[.slice (some ⟨m.length, 0, none⟩) l.length INF, .slice (some ⟨m.length + 1, 0, none⟩) 0 0]) [i] [] (cpM l []) (Copy_be l INF A.esz hl a0 none) ⟨⟨_, a1, by unfold Blk.shp Blk.shpR; rw [a3]; rfl, (fun h => nomatch h), .inl ⟨a2, flatP_scal _⟩⟩, trivial⟩ (by simp) ⟨⟨_, rfl, rfl⟩, ⟨rfl, rfl, rfl, .inl ⟨rfl, flatP_scal _⟩⟩, ⟨rfl, rfl, rfl, .inl ⟨rfl, flatT_scal _⟩⟩, trivial⟩ rfl rfl rfl rfl
  · obtain rfl := List.eq_nil_of_length_eq_zero b1
    unfold cpV
    rw [cP _ a0]
    exact ACalls.viaS (v := .agg #[.slice (some ⟨m.length, 0, none⟩) l.length INF, .slice (some ⟨m.length + 1, 0, none⟩) 0 0]) [i] [] (cpM l []) (Copy_be l INF A.esz hl a0 (some ⟨5, 0, some default⟩)) ⟨⟨_, a1, by unfold Blk.shp Blk.shpR; rw [a3]; rfl, (fun h => nomatch h), .inl ⟨a2, flatP_scal _⟩⟩, trivial⟩ (by simp) ⟨⟨_, rfl, rfl⟩, ⟨rfl, rfl, rfl, .inl ⟨rfl, flatP_scal _⟩⟩, ⟨rfl, rfl, rfl, .inl ⟨rfl, flatT_scal _⟩⟩, trivial⟩ rfl rfl rfl rfl
  · obtain rfl := List.eq_nil_of_length_eq_zero a1
    unfold cpV
    rw [cP _ b0]
    exact ACalls.viaS (v := .agg #[.slice (some ⟨m.length, 0, none⟩) 0 0, .slice (some ⟨m.length + 1, 0, none⟩) ts.length INF]) [j] [] (cpM [] ts) (Copy_eb none ts INF B.esz ht b0) ⟨⟨_, b1, by unfold Blk.shp Blk.shpR; rw [b3]; rfl, (fun h => nomatch h), .inl ⟨b2, flatT_scal _⟩⟩, trivial⟩ (by simp) ⟨⟨_, rfl, rfl⟩, ⟨rfl, rfl, rfl, .inl ⟨rfl, flatP_scal _⟩⟩, ⟨rfl, rfl, rfl, .inl ⟨rfl, flatT_scal _⟩⟩, trivial⟩ rfl rfl rfl rfl
  · obtain rfl := List.eq_nil_of_length_eq_zero a1
    obtain rfl := List.eq_nil_of_length_eq_zero b1
    exact ACalls.viaS (v := cpV m.length [] []) [] [] (cpM [] []) (Copy_ee none none) trivial (by simp) ⟨⟨rfl, rfl, rfl, .inl ⟨rfl, flatP_scal _⟩⟩, ⟨rfl, rfl, rfl, .inl ⟨rfl, flatT_scal _⟩⟩, trivial⟩ rfl rfl rfl rfl
  · obtain rfl := List.eq_nil_of_length_eq_zero a1
    obtain rfl := List.eq_nil_of_length_eq_zero b1
    exact ACalls.viaS (v := cpV m.length [] []) [] [] (cpM [] []) (Copy_ee none (some ⟨5, 0, some default⟩)) trivial (by simp) ⟨⟨rfl, rfl, rfl, .inl ⟨rfl, flatP_scal _⟩⟩, ⟨rfl, rfl, rfl, .inl ⟨rfl, flatT_scal _⟩⟩, trivial⟩ rfl rfl rfl rfl
  · obtain rfl := List.eq_nil_of_length_eq_zero a1
    unfold cpV
    rw [cP _ b0]
    exact ACalls.viaS (v := .agg #[.slice (some ⟨m.length, 0, none⟩) 0 0, .slice (some ⟨m.length + 1, 0, none⟩) ts.length INF]) [j] [] (cpM [] ts) (Copy_eb (some ⟨5, 0, some default⟩) ts INF B.esz ht b0) ⟨⟨_, b1, by unfold Blk.shp Blk.shpR; rw [b3]; rfl, (fun h => nomatch h), .inl ⟨b2, flatT_scal _⟩⟩, trivial⟩ (by simp) ⟨⟨_, rfl, rfl⟩, ⟨rfl, rfl, rfl, .inl ⟨rfl, flatP_scal _⟩⟩, ⟨rfl, rfl, rfl, .inl ⟨rfl, flatT_scal _⟩⟩, trivial⟩ rfl rfl rfl rfl
  · obtain rfl := List.eq_nil_of_length_eq_zero a1
    obtain rfl := List.eq_nil_of_length_eq_zero b1
    exact ACalls.viaS (v := cpV m.length [] []) [] [] (cpM [] []) (Copy_ee (some ⟨5, 0, some default⟩) none) trivial (by simp) ⟨⟨rfl, rfl, rfl, .inl ⟨rfl, flatP_scal _⟩⟩, ⟨rfl, rfl, rfl, .inl ⟨rfl, flatT_scal _⟩⟩, trivial⟩ rfl rfl rfl rfl
  · obtain rfl := List.eq_nil_of_length_eq_zero a1
    obtain rfl := List.eq_nil_of_length_eq_zero b1
    exact ACalls.viaS (v := cpV m.length [] []) [] [] (cpM [] []) (Copy_ee (some ⟨5, 0, some default⟩) (some ⟨5, 0, some default⟩)) trivial (by simp) ⟨⟨rfl, rfl, rfl, .inl ⟨rfl, flatP_scal _⟩⟩, ⟨rfl, rfl, rfl, .inl ⟨rfl, flatT_scal _⟩⟩, trivial⟩ rfl rfl rfl rfl
end Go.Proofs.Ytmohcmghbfhdlaa
end
end
/- Chapter 6: the copy of a net in blocks, its edges, in a greater memory. -/
section
set_option linter.unusedSimpArgs false
set_option linter.unusedVariables false
section
namespace Go.Me
open Go.Ab Go.Proofs.Ytmohcmghbfhdlaa
theorem liB_le {l : List Pn} {ts : List T3} (h : liB l ts = true) : l.length ≤ 1000 ∧ ts.length ≤ 1000 := by
  unfold liB fwB fwT at h
  rw [Bool.and_eq_true, decide_eq_true_iff, decide_eq_true_iff] at h
  omega
end Go.Me
namespace Go.Proofs.Ytmohcmghbfhdlaa
open Go Go.RowKit Go.Ab Go.Me
set_option maxRecDepth 100000
theorem Copy_y {m : Mem} {i j : Nat} {A B : Blk} {l : List Pn} {ts : List T3} (hij : i ≠ j) (h0 : 0 < l.length) (h1 : 0 < ts.length) (hl : l.length ≤ 1000000) (ht : ts.length ≤ 1000000) (a1 : m.at i = some A) (a2 : A.cells = flatP l) (b1 : m.at j = some B) (b2 : B.cells = flatT ts) (a3 : A.obj = Ob.plain) (b3 : B.obj = Ob.plain) :
    ACalls Try.prog 16 [.agg #[.slice (some ⟨i, 0, none⟩) l.length INF, .slice (some ⟨j, 0, none⟩) ts.length INF]] m (.agg #[.slice (some ⟨m.length, 0, none⟩) l.length INF, .slice (some ⟨m.length + 1, 0, none⟩) ts.length INF]) (m ++ cpM l ts) := by
  have h := Copy_g hij (.blk A h0 rfl a1 a2 a3) (.blk B h1 rfl b1 b2 b3) hl ht
  unfold cpV at h
  rw [show cpC l.length = INF from if_neg (by omega), show cpC ts.length = INF from if_neg (by omega)] at h
  exact h
theorem Edges_q {m : Mem} {bP bT n k c c2 : Nat} (l : List Pn) (ts : List T3) (hA : ArgN m bP bT l ts) (hn : l.length = n) (hk : ts.length = k) (hR : NetR l ts) :
    ACalls Try.prog 17 [.agg #[.slice (some ⟨bP, 0, none⟩) n c, .slice (some ⟨bT, 0, none⟩) k c2]] m (.tuple #[.slice (some ⟨m.length, 0, none⟩) (edL ts).length INF, .int .i64 0]) (m ++ [some ⟨flatP (edL ts), true, 2⟩]) := by
  subst hn hk
  obtain ⟨⟨A, h1, h2, h3, h4⟩, ⟨B, h5, h6, h7⟩, hne⟩ := hA
  have h := ACalls.viaS (m := m) (args := [.agg #[.slice (some ⟨bP, 0, none⟩) l.length c, .slice (some ⟨bT, 0, none⟩) ts.length c2]]) (v := .tuple #[.slice (some ⟨m.length, 0, none⟩) (edL ts).length INF, .int .i64 0]) [bP, bT] [] [some ⟨flatP (edL ts), true, 2⟩] (Edges_y0 l ts c c2 A.esz B.esz h3 hR) ⟨⟨_, h1, by unfold Blk.shp Blk.shpR; rw [h4]; rfl, (fun h => nomatch h), .inl ⟨h2, flatP_scal _⟩⟩, ⟨_, h5, by unfold Blk.shp Blk.shpR; rw [h7]; rfl, (fun h => nomatch h), .inl ⟨h6, flatT_scal _⟩⟩, trivial⟩ (by simpa using hne) ⟨⟨_, rfl, rfl⟩, ⟨_, rfl, rfl⟩, ⟨rfl, rfl, rfl, .inl ⟨rfl, flatP_scal _⟩⟩, trivial⟩ rfl rfl rfl rfl
  exact h
end Go.Proofs.Ytmohcmghbfhdlaa
end
end
/- Arguments of which lists are in memory, in the small memory. -/
section
set_option linter.unusedSimpArgs false
set_option linter.unusedVariables false
namespace Go.Ls
open Go.ChangeShapes Go.WideShapes Go.ChangeAt Go Go.RowKit Go.Ab
def plL (L : List (Option Addr × List Value)) (b : Nat) : Option Pl := match L[b]? with
  | some x => plX x.1 x.2
  | none => none
theorem glueL {P : Program} {f : FuncId} {args : List Value} {vals : Array Value} {w : World} (L : List (Option Addr × List Value)) (hs : ∀ x ∈ L, x.2.all scal = true ∧ SlX w x.1 x.2) (hv : VRel (plL L) (.tuple args.toArray) (.tuple vals))
    (h : PCalls P f args (L.map fun x => blX x.2) (.bool true)) : Calls P f vals w fun e w' => e = .returned (.bool true) ∧ Below w.heap.size w w' := by
  refine (h (plL L) _ w (fun b pl hb => ?_) hv (fun b blk hb => ?_)).mono fun e w' ⟨v', he, hr, hb⟩ => ⟨by rw [he, hr.bool], hb.below⟩
  · unfold plL at hb
    cases hx : L[b]? with
    | none => rw [hx] at hb; cases hb
    | some x =>
      have := (List.getElem?_eq_some_iff.1 hx).1
      simpa using this
  · have hlt := Mem.at_lt hb
    have hlt' : b < L.length := by simpa using hlt
    have hx : L[b]? = some L[b] := List.getElem?_eq_getElem hlt'
    obtain ⟨h1, h2⟩ := hs _ (List.getElem_mem hlt')
    have hb' : blX L[b].2 = some blk := by simpa [Mem.at, hx] using hb
    obtain ⟨pl, k1, k2⟩ := blX_rel (ρ := plL L) (i := b) h1 h2 (by unfold plL; rw [hx]) hb'
    exact ⟨pl, k1, k2, fun ho => by rw [blX_ro _ _ hb'] at ho; cases ho⟩
theorem SlG.arg {m : Mem} {i n : Nat} {z : Bool} {cs : List Value} (h : m.at i = blX cs) (hn : cs = [] ↔ n = 0) : SlG m (vaX i n z) cs n := by
  unfold vaX
  by_cases hl : n = 0
  · rw [if_pos hl]
    cases z
    · exact .lost hl rfl
    · exact .nil hl rfl
  · rw [if_neg hl]
    unfold blX at h
    rw [if_neg (fun h => hl (hn.1 h))] at h
    exact .blk i _ rfl h rfl
section
variable {H : Type} {enc : TypeId × Value → H} {P : Program}
theorem post_below {f : Func} {s : ChangeSpec} {apart fresh handsOn again : Bool} {W W' : World} {args : Array Value} {v : Value} {ds gs : List (DataW H)} {before pa pv : List MemPlace}
    (hW : DataW.Whole enc P f.params.toList s.vars apart W args.toList ds gs before)
    (hres : ∀ (b : Nat) (sp : Nat → Bool) (hd : Bool), DataW.TrodAll enc P W' b sp hd f.resultTypes.toList (v.resultList f.resultTypes.size) (s.fn H (ds ++ gs)).results [])
    (hargs : ∀ sp : Nat → Bool, (∀ p ∈ before, sp p.block = true) → DataW.TrodAll enc P W' 0 sp true f.params.toList args.toList (s.fn H (ds ++ gs)).args pa)
    (hvars : ∀ sp : Nat → Bool, (∀ p ∈ before, sp p.block = true) → DataW.TrodVars enc P W' sp s.vars (s.fn H (ds ++ gs)).vars pv)
    (hps : before = pa ++ pv) (hb : Below W.heap.size W W')
    (hok : ∀ (j : Nat) (t : TypeId) (r : Value), f.resultTypes[j]? = some t → (v.resultList f.resultTypes.size)[j]? = some r → Value.okWide P W' .any 0 t r) :
    s.post enc P f apart fresh handsOn again W args v W' := by
  have hlt : ∀ p ∈ before, p.block < W.heap.size := fun p hp => hW.lt p hp
  have hold : ∀ p ∈ before, (fun b => decide (b < W.heap.size)) p.block = true := fun p hp => by simpa using hlt p hp
  refine ⟨ds, gs, before, [], pa, pv, hW, hres _ _ _, hargs _ hold, hvars _ hold, World.keptBut_mono (fun p hp => ⟨hp, ?_⟩) (hb.frame (· ∈ before)), fun _ => ?_⟩
  · rw [hps, List.mem_append] at hp
    exact Or.inr hp
  · obtain ⟨_, _, _, _, _, hz, hn⟩ := hW
    refine ⟨hok, _, _, ([] ++ pa) ++ pv, ⟨[] ++ pa, pv, trodAll_append (hargs _ (fun _ _ => rfl)) (hres _ _ _), hvars _ (fun _ _ => rfl), rfl, ?_, ?_⟩, ?_⟩
    · intro b off hp
      have hin : MemPlace.cell b off ∈ before := by rw [hps]; simpa using hp
      rw [hb.frozen (hlt _ hin)]
      exact hz b off hin
    · intro ha
      have := hn ha
      rw [hps] at this
      simpa using this
    · intro p hp _
      rw [hps]
      simpa using hp
end
end Go.Ls
end
/- How the arguments of the statements of chapter 6 read. -/
section
set_option linter.unusedSimpArgs false
set_option linter.unusedVariables false
section
namespace Go.Proofs.Ytmohcmghbfhdlaa
open Go.ChangeShapes Go.WideShapes Go.ChangeAt Go Go.RowKit Go.Ab Go.Ls Go.Me
set_option maxRecDepth 100000
theorem laid : laidOutB Try.prog = true := by kernel_rfl
theorem own : ownKnob Try.prog.godebug = none := by kernel_rfl
def mkP (f : Nat → Int) : Pn := ⟨f 0, f 1⟩
theorem cells_mp : Try.prog.cellsOf 47 = 2 := by kernel_rfl
theorem ints_mp : intsT Try.prog 4 47 = true := by kernel_rfl
theorem flatP_nil (l : List Pn) : flatP l = [] ↔ l.length = 0 := by
  rw [← List.length_eq_zero_iff, flatP_len]
  omega
end Go.Proofs.Ytmohcmghbfhdlaa
end
end
/- How a net that is an argument of the statements of chapter 6 reads. -/
section
set_option linter.unusedSimpArgs false
set_option linter.unusedVariables false
section
namespace Go.Proofs.Ytmohcmghbfhdlaa
open Go.ChangeShapes Go.WideShapes Go.ChangeAt Go Go.RowKit Go.Ab Go.Ls Go.Me
set_option maxRecDepth 100000
def mkT (f : Nat → Int) : T3 := (f 0, f 1, f 2)
theorem cells_t3 : Try.prog.cellsOf 79 = 3 := by kernel_rfl
theorem ints_t3 : intsT Try.prog 4 79 = true := by kernel_rfl
theorem cells_mn : Try.prog.cellsOf 38 = 2 := by kernel_rfl
theorem flatT_nil (ts : List T3) : flatT ts = [] ↔ ts.length = 0 := by
  rw [← List.length_eq_zero_iff, flatT_len]
  omega
theorem open_MN {H : Type} {enc : TypeId × Value → H} {w : World} {base : Nat} {spare : Nat → Bool} {held : Bool} {r : Reach} {b0 : Nat} {v : Value} {d : DataW H} {p : List MemPlace} (hv : Value.okWide Try.prog w r b0 38 v) (h : DataW.Trod enc Try.prog w base spare held 38 v d p) :
    ∃ a l cap b t cat, v = .agg #[.slice a (List.length (α := Pn) l) cap, .slice b (List.length (α := T3) t) cat] ∧ l.length ≤ cap ∧ cap ≤ maxLen ∧ SlX w a (flatP l) ∧ (a = none → cap = 0) ∧ t.length ≤ cat ∧ cat ≤ maxLen ∧ SlX w b (flatT t) ∧ (b = none → cat = 0) := by
  obtain ⟨cs, rfl, hsz⟩ := okWide_struct Try.underlying38 hv
  obtain ⟨l⟩ := cs
  match l, hsz.trans cells_mn with
  | [c0, c1], _ =>
    obtain ⟨fuel, hf⟩ := h
    obtain ⟨xs, n, _, hx, _, hlen, hg⟩ := DataW.trod_struct Try.underlying38 hf
    match xs, hlen with
    | [y0, y1], _ =>
      have g0 : DataW.trod enc Try.prog w base spare held n 22 [c0] = some y0 := hg 0 _ rfl
      have g1 : DataW.trod enc Try.prog w base spare held n 36 [c1] = some y1 := hg 1 _ rfl
      obtain ⟨a, l, cap, rfl, h1, h2, h3, h4, _⟩ := open_ints ptC (fun _ => rfl) mkP (fun f j hj => match j, hj with | 0, _ => rfl | 1, _ => rfl) Try.underlying22 cells_mp (by decide) ints_mp g0
      obtain ⟨b, t, cat, rfl, k1, k2, k3, k4, _⟩ := open_ints tcC (fun _ => rfl) mkT (fun f j hj => match j, hj with | 0, _ => rfl | 1, _ => rfl | 2, _ => rfl) Try.underlying36 cells_t3 (by decide) ints_t3 g1
      exact ⟨a, l, cap, b, t, cat, rfl, h1, h2, h3, h4, k1, k2, k3, k4⟩
abbrev argN (i : Nat) (a b : Option Addr) (l : List Pn) (ts : List T3) : Value := .agg #[vaX i l.length a.isNone, vaX (i + 1) ts.length b.isNone]
theorem argN_rel {w : World} {ρ : Ren} {i : Nat} {a b : Option Addr} {l : List Pn} {ts : List T3} {cap cat : Nat} (hS : SlX w a (flatP l)) (hT : SlX w b (flatT ts)) (hc : l.length ≤ cap) (hct : ts.length ≤ cat) (hz : a = none → cap = 0) (hzt : b = none → cat = 0) (h1 : ρ i = plX a (flatP l)) (h2 : ρ (i + 1) = plX b (flatT ts)) :
    VRel ρ (argN i a b l ts) (.agg #[.slice a l.length cap, .slice b ts.length cat]) := by
  refine .agg rfl fun j g g' => ?_
  match j, g with
  | 0, _ => exact vaX_rel hS (flatP_nil l) hc hz h1
  | 1, _ => exact vaX_rel hT (flatT_nil ts) hct hzt h2
theorem ro_bl2 (a b : List Value) : Mem.ro [blX a, blX b] := fun k blk hk => by
  match k, hk with
  | 0, hk => exact blX_ro _ _ hk
  | 1, hk => exact blX_ro _ _ hk
end Go.Proofs.Ytmohcmghbfhdlaa
end
end
/- Chapter 6 in plain Lean: nets: sums over directed edges; what is left is the border; a border goes round the hull a whole number of times. -/
section
set_option linter.unusedSimpArgs false
set_option linter.unusedVariables false
namespace Go.Me
def su {α : Type} (l : List α) (f : α → Int) : Int := (l.map f).sum
section
variable {α β : Type}
theorem su_nil (f : α → Int) : su [] f = 0 := rfl
theorem su_cons (a : α) (l : List α) (f : α → Int) : su (a :: l) f = f a + su l f := rfl
theorem su_app (l k : List α) (f : α → Int) : su (l ++ k) f = su l f + su k f := by
  induction l with
  | nil => rw [List.nil_append, su_nil]; omega
  | cons a l ih => rw [List.cons_append, su_cons, su_cons, ih]; omega
theorem su_add (l : List α) (f g : α → Int) : su l (fun a => f a + g a) = su l f + su l g := by
  induction l with
  | nil => rfl
  | cons a l ih => rw [su_cons, su_cons, su_cons, ih]; omega
theorem su_sub (l : List α) (f g : α → Int) : su l (fun a => f a - g a) = su l f - su l g := by
  induction l with
  | nil => rfl
  | cons a l ih => rw [su_cons, su_cons, su_cons, ih]; omega
theorem su_neg (l : List α) (f : α → Int) : su l (fun a => -f a) = -su l f := by
  induction l with
  | nil => rfl
  | cons a l ih => rw [su_cons, su_cons, ih]; omega
theorem su_mul (c : Int) (l : List α) (f : α → Int) : su l (fun a => c * f a) = c * su l f := by
  induction l with
  | nil => simp [su_nil]
  | cons a l ih => rw [su_cons, su_cons, ih, Int.mul_add]
theorem su_zero (l : List α) : su l (fun _ => 0) = 0 := by
  induction l with
  | nil => rfl
  | cons a l ih => rw [su_cons, ih]; rfl
theorem su_congr {l : List α} {f g : α → Int} (h : ∀ a ∈ l, f a = g a) : su l f = su l g := by
  unfold su
  rw [List.map_congr_left h]
theorem su_nn {l : List α} {f : α → Int} (h : ∀ a ∈ l, 0 ≤ f a) : 0 ≤ su l f := by
  induction l with
  | nil => exact Int.le_refl _
  | cons a l ih =>
    have h1 := h a (by simp)
    have h2 := ih fun x hx => h x (by simp [hx])
    rw [su_cons]
    omega
theorem su_le {l : List α} {f g : α → Int} (h : ∀ a ∈ l, f a ≤ g a) : su l f ≤ su l g := by
  have := su_nn (l := l) (f := fun a => g a - f a) fun a ha => by have := h a ha; omega
  rw [su_sub] at this
  omega
theorem su_mem {l : List α} {f : α → Int} (h : ∀ a ∈ l, 0 ≤ f a) {a : α} (ha : a ∈ l) : f a ≤ su l f := by
  induction l with
  | nil => simp at ha
  | cons b l ih =>
    have h1 := h b (by simp)
    have h2 := su_nn (l := l) (f := f) fun x hx => h x (by simp [hx])
    rw [su_cons]
    rcases List.mem_cons.1 ha with rfl | ha
    · omega
    · have := ih (fun x hx => h x (by simp [hx])) ha
      omega
theorem su_perm {l k : List α} (h : l.Perm k) (f : α → Int) : su l f = su k f := by
  induction h with
  | nil => rfl
  | cons a _ ih => rw [su_cons, su_cons, ih]
  | swap a b l => rw [su_cons, su_cons, su_cons, su_cons]; omega
  | trans _ _ h1 h2 => rw [h1, h2]
theorem su_map (l : List α) (g : α → β) (f : β → Int) : su (l.map g) f = su l (fun a => f (g a)) := by
  unfold su
  rw [List.map_map]
  rfl
theorem su_flat (l : List α) (g : α → List β) (f : β → Int) : su (l.flatMap g) f = su l fun a => su (g a) f := by
  induction l with
  | nil => rfl
  | cons a l ih => rw [List.flatMap_cons, su_app, su_cons, ih]
theorem su_filter (l : List α) (p : α → Bool) (f : α → Int) : su l f = su (l.filter p) f + su (l.filter fun a => !p a) f := by
  induction l with
  | nil => rfl
  | cons a l ih =>
    rw [su_cons, ih]
    cases hp : p a
    · rw [List.filter_cons_of_neg (by simp [hp]), List.filter_cons_of_pos (by simp [hp]), su_cons]; omega
    · rw [List.filter_cons_of_pos (by simp [hp]), List.filter_cons_of_neg (by simp [hp]), su_cons]; omega
theorem su_if (l : List α) (p : α → Bool) (f : α → Int) : su (l.filter p) f = su l fun a => if p a = true then f a else 0 := by
  induction l with
  | nil => rfl
  | cons a l ih =>
    rw [su_cons]
    cases hp : p a
    · rw [List.filter_cons_of_neg (by simp [hp]), ih, if_neg (by simp)]; omega
    · rw [List.filter_cons_of_pos (by simp [hp]), su_cons, ih, if_pos rfl]
theorem su_comm (l : List α) (k : List β) (f : α → β → Int) : su l (fun a => su k fun b => f a b) = su k fun b => su l fun a => f a b := by
  induction l with
  | nil => rw [su_nil]; exact (su_zero k).symm
  | cons a l ih => rw [su_cons, ih, ← su_add]; rfl
theorem su_const (l : List α) (c : Int) : su l (fun _ => c) = c * l.length := by
  induction l with
  | nil => simp [su_nil]
  | cons a l ih => rw [su_cons, ih, List.length_cons, Int.natCast_add, Int.mul_add]; omega
end
abbrev Ed := Nat × Nat
def sw (e : Ed) : Ed := (e.2, e.1)
theorem sw_sw (e : Ed) : sw (sw e) = e := rfl
def Anti (g : Ed → Int) : Prop := ∀ e, g (sw e) = -g e
theorem nodup_map_sw {l : List Ed} (h : l.Nodup) : (l.map sw).Nodup := by
  refine List.Pairwise.map _ (fun a b hab hs => hab ?_) h
  have := congrArg sw hs
  exact this
theorem su_anti {l : List Ed} (hn : l.Nodup) (hs : ∀ e ∈ l, sw e ∈ l) {g : Ed → Int} (hg : Anti g) : su l g = 0 := by
  have hp : (l.map sw).Perm l := (List.perm_ext_iff_of_nodup (nodup_map_sw hn) hn).2 fun e => by
    constructor
    · intro h
      obtain ⟨x, hx, rfl⟩ := List.mem_map.1 h
      exact hs x hx
    · intro h
      exact List.mem_map.2 ⟨sw e, hs e h, sw_sw e⟩
  have h1 := su_perm hp g
  rw [su_map, show (fun a => g (sw a)) = fun a => -g a from funext hg, su_neg] at h1
  omega
def bd (l : List Ed) : List Ed := l.filter fun e => !l.contains (sw e)
theorem bd_mem {l : List Ed} {e : Ed} : e ∈ bd l ↔ e ∈ l ∧ sw e ∉ l := by
  unfold bd
  simp
theorem su_bd {l : List Ed} (hn : l.Nodup) {g : Ed → Int} (hg : Anti g) : su l g = su (bd l) g := by
  rw [su_filter l (fun e => !l.contains (sw e)) g]
  have : su (l.filter fun e => !(!l.contains (sw e))) g = 0 := by
    refine su_anti (hn.filter _) (fun e he => ?_) hg
    simp only [Bool.not_not, List.mem_filter, List.contains_iff_mem] at he ⊢
    exact ⟨he.2, by rw [sw_sw]; exact he.1⟩
  rw [this]
  unfold bd
  omega
abbrev Tri := Nat × Nat × Nat
def ed3 (t : Tri) : List Ed := [(t.1, t.2.1), (t.2.1, t.2.2), (t.2.2, t.1)]
def edT (ts : List Tri) : List Ed := ts.flatMap ed3
theorem su_ed3 (t : Tri) (f : Ed → Int) : su (ed3 t) f = f (t.1, t.2.1) + (f (t.2.1, t.2.2) + f (t.2.2, t.1)) := by
  show f (t.1, t.2.1) + (f (t.2.1, t.2.2) + (f (t.2.2, t.1) + 0)) = _
  omega
theorem su_grad (ts : List Tri) (f : Nat → Int) : su (edT ts) (fun e => f e.1 - f e.2) = 0 := by
  unfold edT
  rw [su_flat]
  rw [su_congr (g := fun _ => 0) fun t _ => by rw [su_ed3]; show f t.1 - f t.2.1 + (f t.2.1 - f t.2.2 + (f t.2.2 - f t.1)) = 0; omega]
  exact su_zero ts
def Bal (l : List Ed) : Prop := ∀ f : Nat → Int, su l (fun e => f e.1 - f e.2) = 0
theorem bal_bd {ts : List Tri} (hn : (edT ts).Nodup) : Bal (bd (edT ts)) := fun f => by
  rw [← su_bd hn fun e => by show f e.2 - f e.1 = -(f e.1 - f e.2); omega]
  exact su_grad ts f
end Go.Me
end
/- Chapter 6 in plain Lean: a balanced family of edges that all have the points at their left crosses each upright line equally often. Points have different x here. -/
section
set_option linter.unusedSimpArgs false
set_option linter.unusedVariables false
namespace Go.Me
theorem wedge_id {a b a' b' v q : Pn} (hv1 : v = a ∨ v = b) (hv2 : v = a' ∨ v = b') :
    (a.x - b.x) * cr a' b' q + (b'.x - a'.x) * cr a b q = (q.x - v.x) * ((b'.x - a'.x) * (a.y - b.y) - (b'.y - a'.y) * (a.x - b.x)) := by
  rcases hv1 with rfl | rfl <;> rcases hv2 with h | h <;> subst h <;> unfold cr <;> grind
theorem wedge {a b a' b' v m M q : Pn} (h1 : b.x < a.x) (h2 : a'.x < b'.x) (hv1 : v = a ∨ v = b) (hv2 : v = a' ∨ v = b') (hm : m.x < v.x) (hM : v.x < M.x)
    (s1 : 0 ≤ cr a b m) (s2 : 0 ≤ cr a b M) (s3 : 0 ≤ cr a b q) (s4 : 0 ≤ cr a' b' m) (s5 : 0 ≤ cr a' b' M) (s6 : 0 ≤ cr a' b' q) : cr a b q = 0 := by
  have e1 := wedge_id (q := m) hv1 hv2
  have e2 := wedge_id (q := M) hv1 hv2
  have e3 := wedge_id (q := q) hv1 hv2
  generalize (b'.x - a'.x) * (a.y - b.y) - (b'.y - a'.y) * (a.x - b.x) = K at *
  have p1 := Int.mul_nonneg (show 0 ≤ a.x - b.x by omega) s4
  have p2 := Int.mul_nonneg (show 0 ≤ b'.x - a'.x by omega) s1
  have p3 := Int.mul_nonneg (show 0 ≤ a.x - b.x by omega) s5
  have p4 := Int.mul_nonneg (show 0 ≤ b'.x - a'.x by omega) s2
  have p5 := Int.mul_nonneg (show 0 ≤ a.x - b.x by omega) s6
  have p6 := Int.mul_nonneg (show 0 ≤ b'.x - a'.x by omega) s3
  have k1 : K ≤ 0 := by
    apply Classical.byContradiction
    intro hk
    have := Int.mul_neg_of_neg_of_pos (show m.x - v.x < 0 by omega) (show 0 < K by omega)
    omega
  have k2 : 0 ≤ K := by
    apply Classical.byContradiction
    intro hk
    have := Int.mul_neg_of_pos_of_neg (show 0 < M.x - v.x by omega) (show K < 0 by omega)
    omega
  have k0 : K = 0 := by omega
  rw [k0, Int.mul_zero] at e3
  have z : (b'.x - a'.x) * cr a b q = 0 := by omega
  rcases Int.mul_eq_zero.1 z with h | h
  · omega
  · exact h
section
variable (P : Nat → Pn)
def sp (c : Int) (e : Ed) : Int := if (P e.2).x ≤ c ∧ c < (P e.1).x then 1 else 0
def U (S : List Ed) (c : Int) : Int := su S (sp P c)
def Lo (S : List Ed) (c : Int) : Int := su S fun e => sp P c (sw e)
structure Sup (n : Nat) (e : Ed) : Prop where
  l1 : e.1 < n
  l2 : e.2 < n
  ne : e.1 ≠ e.2
  at_ : ∀ q, q < n → 0 ≤ cr (P e.1) (P e.2) (P q)
structure Gen (n : Nat) : Prop where
  inj : ∀ i j, i < n → j < n → (P i).x = (P j).x → i = j
  nf : ∃ i j k, i < n ∧ j < n ∧ k < n ∧ cr (P i) (P j) (P k) ≠ 0
end
section
variable {P : Nat → Pn} {n : Nat} {S : List Ed}
theorem U_Lo (hb : Bal S) (c : Int) : U P S c = Lo P S c := by
  have h := hb fun v => if c < (P v).x then 1 else 0
  have e : su S (fun e => (if c < (P e.1).x then (1 : Int) else 0) - if c < (P e.2).x then (1 : Int) else 0) = U P S c - Lo P S c := by
    unfold U Lo
    rw [← su_sub]
    refine su_congr fun e _ => ?_
    show _ = (if (P e.2).x ≤ c ∧ c < (P e.1).x then (1 : Int) else 0) - if (P e.1).x ≤ c ∧ c < (P e.2).x then 1 else 0
    by_cases h1 : c < (P e.1).x <;> by_cases h2 : c < (P e.2).x
    · rw [if_pos h1, if_pos h2, if_neg (by omega), if_neg (by omega)]; rfl
    · rw [if_pos h1, if_neg h2, if_pos (by omega), if_neg (by omega)]
    · rw [if_neg h1, if_pos h2, if_neg (by omega), if_pos (by omega)]
    · rw [if_neg h1, if_neg h2, if_neg (by omega), if_neg (by omega)]
  rw [e] at h
  omega
theorem U_step (hg : Gen P n) (hb : Bal S) (hs : ∀ e ∈ S, Sup P n e) {c : Int} {m M : Nat} (hm : m < n) (hM : M < n) (h1 : (P m).x ≤ c) (h2 : c + 1 < (P M).x) : U P S c = U P S (c + 1) := by
  let f : Nat → Int := fun v => if (P v).x = c + 1 then 1 else 0
  have hb' := hb f
  have e : U P S c - U P S (c + 1) = su S fun e => if (P e.2).x < (P e.1).x then f e.1 - f e.2 else 0 := by
    unfold U
    rw [← su_sub]
    refine su_congr fun e _ => ?_
    show (if (P e.2).x ≤ c ∧ c < (P e.1).x then (1 : Int) else 0) - (if (P e.2).x ≤ c + 1 ∧ c + 1 < (P e.1).x then 1 else 0) = if (P e.2).x < (P e.1).x then (if (P e.1).x = c + 1 then 1 else 0) - (if (P e.2).x = c + 1 then 1 else 0) else 0
    repeat' split
    all_goals omega
  by_cases hlo : ∃ e ∈ S, (P e.1).x < (P e.2).x ∧ ((P e.1).x = c + 1 ∨ (P e.2).x = c + 1)
  · have z : su S (fun e => if (P e.2).x < (P e.1).x then f e.1 - f e.2 else 0) = 0 := by
      rw [su_congr (g := fun _ => 0) fun e he => ?_]
      · exact su_zero S
      · split
        · rename_i hu
          by_cases hv : (P e.1).x = c + 1 ∨ (P e.2).x = c + 1
          · exfalso
            obtain ⟨e', he', hl, hv'⟩ := hlo
            have s := hs e he
            have s' := hs e' he'
            obtain ⟨i, j, k, hi, hj, hk, hne⟩ := hg.nf
            have vs : ∃ v, v < n ∧ (P v).x = c + 1 ∧ (v = e.1 ∨ v = e.2) := by
              rcases hv with h | h
              · exact ⟨e.1, s.l1, h, .inl rfl⟩
              · exact ⟨e.2, s.l2, h, .inr rfl⟩
            obtain ⟨v, hvn, hvx, hv1⟩ := vs
            have hv2 : v = e'.1 ∨ v = e'.2 := by
              rcases hv' with h | h
              · exact .inl (hg.inj _ _ hvn s'.l1 (by omega))
              · exact .inr (hg.inj _ _ hvn s'.l2 (by omega))
            have z : ∀ q, q < n → cr (P e.1) (P e.2) (P q) = 0 := fun q hq =>
              wedge (v := P v) (m := P m) (M := P M) hu hl (hv1.imp (congrArg P) (congrArg P)) (hv2.imp (congrArg P) (congrArg P)) (by omega) (by omega) (s.at_ m hm) (s.at_ M hM) (s.at_ q hq) (s'.at_ m hm) (s'.at_ M hM) (s'.at_ q hq)
            refine hne (flat_of (a := P e.1) (b := P e.2) (fun h => ?_) (z i hi) (z j hj) (z k hk))
            rw [h] at hu
            omega
          · show (if (P e.1).x = c + 1 then (1 : Int) else 0) - (if (P e.2).x = c + 1 then 1 else 0) = 0
            rw [if_neg fun h => hv (.inl h), if_neg fun h => hv (.inr h)]
            rfl
        · rfl
    omega
  · have z : su S (fun e => if (P e.2).x < (P e.1).x then f e.1 - f e.2 else 0) = su S fun e => f e.1 - f e.2 := by
      refine su_congr fun e he => ?_
      split
      · rfl
      · rename_i hu
        have s := hs e he
        have hx : (P e.1).x ≠ (P e.2).x := fun h => s.ne (hg.inj _ _ s.l1 s.l2 h)
        have hv : ¬ ((P e.1).x = c + 1 ∨ (P e.2).x = c + 1) := fun h => hlo ⟨e, he, by omega, h⟩
        show 0 = (if (P e.1).x = c + 1 then (1 : Int) else 0) - (if (P e.2).x = c + 1 then 1 else 0)
        rw [if_neg fun h => hv (.inl h), if_neg fun h => hv (.inr h)]
        rfl
    omega
theorem U_const (hg : Gen P n) (hb : Bal S) (hs : ∀ e ∈ S, Sup P n e) {m M : Nat} (hm : m < n) (hM : M < n) : ∀ (k : Nat), (P m).x + k < (P M).x → U P S ((P m).x + k) = U P S (P m).x
  | 0, _ => by simp
  | k + 1, h => by
    have ih := U_const hg hb hs hm hM k (by omega)
    have := U_step (c := (P m).x + k) hg hb hs hm hM (by omega) (by omega)
    rw [← ih, this]
    congr 1
    omega
theorem U_eq (hg : Gen P n) (hb : Bal S) (hs : ∀ e ∈ S, Sup P n e) {m M : Nat} (hm : m < n) (hM : M < n) {c : Int} (h1 : (P m).x ≤ c) (h2 : c < (P M).x) : U P S c = U P S (P m).x := by
  obtain ⟨k, rfl⟩ : ∃ k : Nat, c = (P m).x + k := ⟨(c - (P m).x).toNat, by omega⟩
  exact U_const hg hb hs hm hM k h2
end
end Go.Me
end
/- Chapter 6 in plain Lean: two such families: what they enclose goes as how often they go round. -/
section
set_option linter.unusedSimpArgs false
set_option linter.unusedVariables false
namespace Go.Me
def gN (a b : Pn) (c : Int) : Int := a.y * (2 * (c - b.x) + 1) + b.y * (2 * (a.x - c) - 1)
theorem line_eq {a b a' b' : Pn} (c : Int) (h1 : cr a b a' = 0) (h2 : cr a b b' = 0) : gN a b c * (a'.x - b'.x) = gN a' b' c * (a.x - b.x) := by
  unfold gN cr at *
  grind
theorem line_of {a b a' b' : Pn} {c : Int} (h1 : b.x ≤ c) (h2 : c < a.x) (h1' : b'.x ≤ c) (h2' : c < a'.x) (s1 : 0 ≤ cr a b a') (s2 : 0 ≤ cr a b b') (s3 : 0 ≤ cr a' b' a) (s4 : 0 ≤ cr a' b' b) : cr a b a' = 0 ∧ cr a b b' = 0 := by
  -- the difference of both lines' heights, times both lengths
  let al : Int := (a.x - b.x) * (a'.y - b'.y) - (a'.x - b'.x) * (a.y - b.y)
  let be : Int := (a.x - b.x) * (b'.y * a'.x - a'.y * b'.x) - (a'.x - b'.x) * (b.y * a.x - a.y * b.x)
  have e1 : al * a.x + be = (a.x - b.x) * cr a' b' a := by simp only [al, be]; unfold cr; grind
  have e2 : al * b.x + be = (a.x - b.x) * cr a' b' b := by simp only [al, be]; unfold cr; grind
  have e3 : al * a'.x + be = -((a'.x - b'.x) * cr a b a') := by simp only [al, be]; unfold cr; grind
  have e4 : al * b'.x + be = -((a'.x - b'.x) * cr a b b') := by simp only [al, be]; unfold cr; grind
  have p1 := Int.mul_nonneg (show 0 ≤ a.x - b.x by omega) s3
  have p2 := Int.mul_nonneg (show 0 ≤ a.x - b.x by omega) s4
  have p3 := Int.mul_nonneg (show 0 ≤ a'.x - b'.x by omega) s1
  have p4 := Int.mul_nonneg (show 0 ≤ a'.x - b'.x by omega) s2
  generalize al = al at *
  generalize be = be at *
  have k1 : 0 ≤ al := by
    apply Classical.byContradiction
    intro hk
    have := Int.mul_neg_of_neg_of_pos (show al < 0 by omega) (show 0 < a.x - b'.x by omega)
    rw [Int.mul_sub] at this
    omega
  have k2 : al ≤ 0 := by
    apply Classical.byContradiction
    intro hk
    have := Int.mul_neg_of_pos_of_neg (show 0 < al by omega) (show b.x - a'.x < 0 by omega)
    rw [Int.mul_sub] at this
    omega
  have k0 : al = 0 := by omega
  subst k0
  rw [Int.zero_mul] at e1 e2 e3 e4
  have z1 : (a'.x - b'.x) * cr a b a' = 0 := by omega
  have z2 : (a'.x - b'.x) * cr a b b' = 0 := by omega
  exact ⟨(Int.mul_eq_zero.1 z1).resolve_left (by omega), (Int.mul_eq_zero.1 z2).resolve_left (by omega)⟩
def cols (m : Int) (N : Nat) : List Int := (List.range N).map fun j => m + (j : Nat)
theorem cols_mem {m c : Int} {N : Nat} (h : c ∈ cols m N) : m ≤ c ∧ c < m + N := by
  obtain ⟨j, hj, rfl⟩ := List.mem_map.1 h
  have := List.mem_range.1 hj
  omega
theorem su_tele (m : Int) (h : Int → Int) : ∀ N : Nat, su (cols m N) (fun c => h (c + 1) - h c) = h (m + N) - h m
  | 0 => by simp [cols, su_nil]
  | N + 1 => by
    have e : cols m (N + 1) = cols m N ++ [m + (N : Nat)] := by
      unfold cols
      rw [List.range_succ, List.map_append]
      rfl
    rw [e, su_app, su_tele m h N, su_cons, su_nil]
    rw [show m + ((N + 1 : Nat) : Int) = m + (N : Int) + 1 by omega]
    omega
section
variable (P : Nat → Pn)
def gE (c : Int) (e : Ed) : Int := gN (P e.1) (P e.2) c
def trz (e : Ed) : Int := ((P e.1).x - (P e.2).x) * ((P e.1).y + (P e.2).y)
def tU (S : List Ed) : Int := su S fun e => if (P e.2).x < (P e.1).x then trz P e else 0
end
section
variable {P : Nat → Pn} {n : Nat}
theorem col_sum {m : Int} {N : Nat} {e : Ed} (h1 : m ≤ (P e.2).x) (h2 : (P e.1).x ≤ m + N) (h3 : (P e.2).x < (P e.1).x) : su (cols m N) (fun c => sp P c e * gE P c e) = ((P e.1).x - (P e.2).x) * trz P e := by
  let F : Int → Int := fun c => (P e.1).y * ((c - (P e.2).x) * (c - (P e.2).x)) - (P e.2).y * (((P e.1).x - c) * ((P e.1).x - c))
  let h : Int → Int := fun c => F (max (P e.2).x (min (P e.1).x c))
  have t := su_tele m h N
  have e0 : h m = F (P e.2).x := by simp only [h]; congr 1; omega
  have e1 : h (m + N) = F (P e.1).x := by simp only [h]; congr 1; omega
  rw [e0, e1] at t
  have ef : F (P e.1).x - F (P e.2).x = ((P e.1).x - (P e.2).x) * trz P e := by simp only [F]; unfold trz; grind
  rw [ef] at t
  rw [← t]
  refine su_congr fun c _ => ?_
  simp only [h]
  unfold sp
  by_cases hc : (P e.2).x ≤ c ∧ c < (P e.1).x
  · rw [if_pos hc, show max (P e.2).x (min (P e.1).x (c + 1)) = c + 1 by omega, show max (P e.2).x (min (P e.1).x c) = c by omega]
    simp only [F]
    unfold gE gN
    grind
  · rw [if_neg hc]
    rcases Int.lt_or_le c (P e.2).x with hl | hl
    · rw [show max (P e.2).x (min (P e.1).x (c + 1)) = (P e.2).x by omega, show max (P e.2).x (min (P e.1).x c) = (P e.2).x by omega]; omega
    · rw [show max (P e.2).x (min (P e.1).x (c + 1)) = (P e.1).x by omega, show max (P e.2).x (min (P e.1).x c) = (P e.1).x by omega]; omega
theorem common (P : Nat → Pn) : ∀ L : List Ed, ∃ (D : Int) (q : Ed → Int), 0 < D ∧ ∀ e ∈ L, (P e.2).x < (P e.1).x → q e * ((P e.1).x - (P e.2).x) = D := by
  intro L
  suffices h : ∃ D : Int, 0 < D ∧ ∀ e ∈ L, (P e.2).x < (P e.1).x → ∃ q, q * ((P e.1).x - (P e.2).x) = D by
    obtain ⟨D, h0, h1⟩ := h
    refine ⟨D, fun e => if h : e ∈ L ∧ (P e.2).x < (P e.1).x then Classical.choose (h1 e h.1 h.2) else 0, h0, fun e he hu => ?_⟩
    simp only [dif_pos (And.intro he hu)]
    exact Classical.choose_spec (h1 e he hu)
  induction L with
  | nil => exact ⟨1, by decide, by simp⟩
  | cons a L ih =>
    obtain ⟨D, h0, h1⟩ := ih
    by_cases hu : (P a.2).x < (P a.1).x
    · refine ⟨D * ((P a.1).x - (P a.2).x), Int.mul_pos h0 (by omega), fun e he hue => ?_⟩
      rcases List.mem_cons.1 he with rfl | he
      · exact ⟨D, rfl⟩
      · obtain ⟨q, hq⟩ := h1 e he hue
        exact ⟨q * ((P a.1).x - (P a.2).x), by rw [← hq]; grind⟩
    · refine ⟨D, h0, fun e he hue => ?_⟩
      rcases List.mem_cons.1 he with rfl | he
      · exact absurd hue hu
      · exact h1 e he hue
theorem sp_01 (c : Int) (e : Ed) : sp P c e = 0 ∨ (sp P c e = 1 ∧ (P e.2).x ≤ c ∧ c < (P e.1).x) := by
  unfold sp
  split
  · rename_i h; exact .inr ⟨rfl, h⟩
  · exact .inl rfl
theorem area_up {S H : List Ed} {m : Nat} {N : Nat} (hS : ∀ e ∈ S, Sup P n e) (hH : ∀ e ∈ H, Sup P n e) (hm : ∀ v, v < n → (P m).x ≤ (P v).x) (hM : ∀ v, v < n → (P v).x ≤ (P m).x + N) {wS wH : Int}
    (kS : ∀ c ∈ cols (P m).x N, U P S c = wS) (kH : ∀ c ∈ cols (P m).x N, U P H c = wH) : wH * tU P S = wS * tU P H := by
  obtain ⟨D, q, hD, hq⟩ := common P (S ++ H)
  -- one family, counted by columns
  have one : ∀ (S H : List Ed) (wH : Int), (∀ e ∈ S, Sup P n e) → (∀ e ∈ S, (P e.2).x < (P e.1).x → q e * ((P e.1).x - (P e.2).x) = D) → (∀ c ∈ cols (P m).x N, U P H c = wH) →
      D * (wH * tU P S) = su S fun e => su H fun e' => su (cols (P m).x N) fun c => sp P c e * sp P c e' * (gE P c e * q e) := by
    intro S H wH hS hq kH
    unfold tU
    rw [← su_mul, ← su_mul]
    refine su_congr fun e he => ?_
    rw [su_comm]
    have s := hS e he
    have e1 : su (cols (P m).x N) (fun c => su H fun e' => sp P c e * sp P c e' * (gE P c e * q e)) = su (cols (P m).x N) fun c => wH * q e * (sp P c e * gE P c e) := by
      refine su_congr fun c hc => ?_
      rw [su_congr (g := fun e' => sp P c e * (gE P c e * q e) * sp P c e') fun e' _ => by grind, su_mul]
      have := kH c hc
      unfold U at this
      rw [show (su H fun e' => sp P c e') = wH from this]
      grind
    rw [e1, su_mul]
    by_cases hu : (P e.2).x < (P e.1).x
    · rw [if_pos hu, col_sum (hm _ s.l2) (hM _ s.l1) hu, ← hq e he hu]
      grind
    · rw [if_neg hu, su_congr (g := fun _ => 0) fun c _ => ?_, su_zero]
      · simp
      · rcases sp_01 (P := P) c e with h | ⟨_, h1, h2⟩
        · rw [h, Int.zero_mul]
        · omega
  have h1 := one S H wH hS (fun e he => hq e (by simp [he])) kH
  have h2 := one H S wS hH (fun e he => hq e (by simp [he])) kS
  rw [su_comm] at h2
  have h3 : (su S fun e => su H fun e' => su (cols (P m).x N) fun c => sp P c e * sp P c e' * (gE P c e * q e)) = su S fun e => su H fun e' => su (cols (P m).x N) fun c => sp P c e' * sp P c e * (gE P c e' * q e') := by
    refine su_congr fun e he => su_congr fun e' he' => su_congr fun c _ => ?_
    rcases sp_01 (P := P) c e with h | ⟨h, q1, q2⟩
    · rw [h]; grind
    · rcases sp_01 (P := P) c e' with h' | ⟨h', q1', q2'⟩
      · rw [h']; grind
      · have s := hS e he
        have s' := hH e' he'
        obtain ⟨z1, z2⟩ := line_of q1 q2 q1' q2' (s.at_ _ s'.l1) (s.at_ _ s'.l2) (s'.at_ _ s.l1) (s'.at_ _ s.l2)
        have le := line_eq c z1 z2
        have d1 := hq e (by simp [he]) (by omega)
        have d2 := hq e' (by simp [he']) (by omega)
        have hk : gE P c e * q e = gE P c e' * q e' := by
          unfold gE
          have hn : ((P e.1).x - (P e.2).x) * ((P e'.1).x - (P e'.2).x) ≠ 0 := Int.mul_ne_zero (by omega) (by omega)
          refine Int.eq_of_mul_eq_mul_right hn ?_
          grind
        rw [h, h', hk]
  have h4 : D * (wH * tU P S) = D * (wS * tU P H) := (h1.trans h3).trans h2.symm
  exact Int.eq_of_mul_eq_mul_left (by omega) h4
end
end Go.Me
end
/- Chapter 6 in plain Lean: what a balanced border encloses, in all. -/
section
set_option linter.unusedSimpArgs false
set_option linter.unusedVariables false
namespace Go.Me
def mr (P : Nat → Pn) : Nat → Pn := fun i => ⟨(P i).x, -(P i).y⟩
theorem cr_mr (P : Nat → Pn) (i j k : Nat) : cr (mr P j) (mr P i) (mr P k) = cr (P i) (P j) (P k) := by unfold cr mr; grind
def ar (P : Nat → Pn) (S : List Ed) : Int := su S fun e => (P e.1).x * (P e.2).y - (P e.1).y * (P e.2).x
section
variable {P : Nat → Pn} {n : Nat} {S : List Ed}
theorem sup_mr {e : Ed} (h : Sup P n e) : Sup (mr P) n (sw e) := ⟨h.l2, h.l1, fun x => h.ne x.symm, fun q hq => by
  show 0 ≤ cr (mr P e.2) (mr P e.1) (mr P q)
  rw [cr_mr]
  exact h.at_ q hq⟩
theorem U_mr (c : Int) : U (mr P) (S.map sw) c = Lo P S c := by
  unfold U Lo
  rw [su_map]
  rfl
theorem ar_tU (hg : Gen P n) (hb : Bal S) (hs : ∀ e ∈ S, Sup P n e) : ar P S = tU P S + tU (mr P) (S.map sw) := by
  have h1 : su S (trz P) = ar P S := by
    have h := hb fun v => (P v).x * (P v).y
    have e : su S (trz P) = su S (fun e => (P e.1).x * (P e.2).y - (P e.1).y * (P e.2).x) + su S fun e => (P e.1).x * (P e.1).y - (P e.2).x * (P e.2).y := by
      rw [← su_add]
      refine su_congr fun e _ => ?_
      unfold trz
      grind
    rw [e]
    unfold ar
    omega
  rw [← h1]
  unfold tU
  rw [su_map, ← su_add]
  refine su_congr fun e he => ?_
  have s := hs e he
  have hx : (P e.1).x ≠ (P e.2).x := fun h => s.ne (hg.inj _ _ s.l1 s.l2 h)
  show _ = (if (P e.2).x < (P e.1).x then trz P e else 0) + if (P e.1).x < (P e.2).x then trz (mr P) (sw e) else 0
  rcases Int.lt_or_le (P e.2).x (P e.1).x with h | h
  · rw [if_pos h, if_neg (by omega)]; omega
  · rw [if_neg (by omega), if_pos (by omega)]
    show trz P e = 0 + ((P e.2).x - (P e.1).x) * (-(P e.2).y + -(P e.1).y)
    unfold trz
    grind
theorem area_w {H : List Ed} (hg : Gen P n) (bS : Bal S) (bH : Bal H) (hS : ∀ e ∈ S, Sup P n e) (hH : ∀ e ∈ H, Sup P n e) {m M : Nat} (hmn : m < n) (hMn : M < n) (hm : ∀ v, v < n → (P m).x ≤ (P v).x) (hM : ∀ v, v < n → (P v).x ≤ (P M).x) :
    U P H (P m).x * ar P S = U P S (P m).x * ar P H := by
  obtain ⟨N, hN⟩ : ∃ N : Nat, (P M).x = (P m).x + N := ⟨((P M).x - (P m).x).toNat, by have := hm M hMn; omega⟩
  have hM' : ∀ v, v < n → (P v).x ≤ (P m).x + N := fun v hv => by have := hM v hv; omega
  have k : ∀ S : List Ed, Bal S → (∀ e ∈ S, Sup P n e) → ∀ c ∈ cols (P m).x N, U P S c = U P S (P m).x := fun S b h c hc => by
    obtain ⟨h1, h2⟩ := cols_mem hc
    exact U_eq hg b h hmn hMn h1 (by omega)
  have up := area_up hS hH hm hM' (k S bS hS) (k H bH hH)
  have sm : ∀ S : List Ed, (∀ e ∈ S, Sup P n e) → ∀ e ∈ S.map sw, Sup (mr P) n e := fun S h e he => by
    obtain ⟨x, hx, rfl⟩ := List.mem_map.1 he
    exact sup_mr (h x hx)
  have k' : ∀ S : List Ed, Bal S → (∀ e ∈ S, Sup P n e) → ∀ c ∈ cols (mr P m).x N, U (mr P) (S.map sw) c = U P S (P m).x := fun S b h c hc => by
    rw [U_mr, ← U_Lo b]
    exact k S b h c hc
  have lo := area_up (P := mr P) (sm S hS) (sm H hH) hm hM' (k' S bS hS) (k' H bH hH)
  rw [ar_tU hg bS hS, ar_tU hg bH hH, Int.mul_add, Int.mul_add, up, lo]
end
end Go.Me
end
