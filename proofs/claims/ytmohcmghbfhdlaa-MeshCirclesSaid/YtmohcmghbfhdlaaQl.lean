/- Chapter 6: equal lists of numbers; Sides and Unwrap in a greater memory. -/
import Derived.Test.YtmohcmghbfhdlaaQc
import Derived.Test.YtmohcmghbfhdlaaQk
import Derived.Test.YtmohcmghbfhdlaaQd
import Derived.Test.YtmohcmghbfhdlaaProg
section
set_option linter.unusedSimpArgs false
set_option linter.unusedVariables false
section
namespace Go.Me
open Go.Ab Go.Proofs.Ytmohcmghbfhdlaa
theorem nts_eq {xs ys : List Int} (hl : xs.length = ys.length) (h : ∀ k, k < xs.length → nt xs k = nt ys k) : xs = ys := by
  refine List.ext_getElem hl fun i h1 h2 => ?_
  have := h i h1
  unfold nt at this
  rw [List.getD_eq_getElem?_getD, List.getD_eq_getElem?_getD, List.getElem?_eq_getElem h1, List.getElem?_eq_getElem h2] at this
  exact this
end Go.Me
namespace Go.Proofs.Ytmohcmghbfhdlaa
open Go Go.RowKit Go.Ab Go.Me
set_option maxRecDepth 100000
set_option maxHeartbeats 4000000
attribute [local irreducible] OQ OW AL AW AD AF SW
theorem Ints_0 (xs ys : List Int) (hl : xs.length ≤ 1000000) (c d z z1 : Nat) :
    PCalls Try.prog 13 [.slice (some ⟨0, 0, none⟩) xs.length c, .slice (some ⟨1, 0, none⟩) ys.length d] [some ⟨flatN xs, false, z⟩, some ⟨flatN ys, false, z1⟩] (.bool (decide (xs = ys))) := by
  have hgX : ∀ k, k < xs.length → (flatN xs)[k]? = some (.int .i64 (nt xs k)) := fun k hk => flatN_get _ k hk
  have hgY : ∀ k, k < ys.length → (flatN ys)[k]? = some (.int .i64 (nt ys k)) := fun k hk => flatN_get _ k hk
  have h1 : xs.length ≠ ys.length → decide (xs = ys) = false := fun h => decide_eq_false fun h2 => h (by rw [h2])
  have h2 : ∀ k, nt xs k ≠ nt ys k → decide (xs = ys) = false := fun k h => decide_eq_false fun h2 => h (by rw [h2])
  have h3 : xs.length = ys.length → (∀ j, j < xs.length → nt xs j = nt ys j) → decide (xs = ys) = true := fun h h2 => decide_eq_true (nts_eq h h2)
  generalize decide (xs = ys) = B0 at *
  refine PCalls.enter (t := [.slice (some ⟨0, 0, none⟩) xs.length c, .slice (some ⟨1, 0, none⟩) ys.length d, undef, undef, undef, undef, undef, undef, undef, undef, undef, undef, undef, undef, undef, undef, undef, undef, undef, undef, undef, undef, undef, undef, undef, undef]) Try.func13 rfl (ro2p _ _ rfl rfl) rfl fun E => ?_
  repeat' (first
    | with_reducible refine Then.n ?_
    | with_reducible refine Then.r ?_
    | with_reducible refine Then.x ?_
    | with_reducible refine InB.n ?_
    | with_reducible refine InB.r ?_
    | with_reducible refine InB.hit ?_
    | with_reducible refine InB.miss (by decide) ?_
    | ((with_reducible refine AL.on ?_); first
      | ((first | ((with_reducible refine AL.k_move ?_); first | (refine AL.q rfl (OQ.move wl) ?_)) | ((with_reducible refine AL.k_assign ?_); first | (refine AL.q rfl (OQ.assign wl) ?_)) | ((with_reducible refine AL.k_binOp ?_); first | refine AL.q rfl (OQ.neq rfl rfl) ?_ | refine AL.q rfl (OQ.lss rfl rfl) ?_ | refine AL.q rfl (OQ.addi rfl rfl (by omega)) ?_ | refine AL.q rfl (OQ.add rfl rfl) ?_) | ((with_reducible refine AL.k_call ?_); first | refine AL.q rfl (OQ.lenS (xt := 29) (r := (none, 1, false)) rfl kr) ?_)); (conv => (arg 5; try tactic => exact nrm)))
      | refine AL.nil ?_)
    | ((with_reducible refine AW.on ?_); first
      | refine AW.seq ?_
      | refine AW.skip ?_
      | refine AW.exit ?_
      | refine AW.ret ?_
      | ((refine AW.block (id := 0) ?_); (refine AW.wk (Wk.forget [true, true, false, false, false, true, false, false, false, false, false, false, false, false, false, false, false, false, false, false, false, false, false, false, false, false] rfl) ?_); (conv => (arg 4; simp only [fgt, if_true, if_false, Bool.false_eq_true])); (refine AW.loop (fun n' t' m => ∃ k : Nat, n' = xs.length - k ∧ k ≤ xs.length ∧ (∀ j, j < k → nt xs j = nt ys j) ∧ t' = [.slice (some ⟨0, 0, none⟩) xs.length c, .slice (some ⟨1, 0, none⟩) ys.length d, junk, junk, junk, .int .i64 (k), junk, junk, junk, junk, junk, junk, junk, junk, junk, junk, junk, junk, junk, junk, junk, junk, junk, junk, junk, junk] ∧ m = [some ⟨flatN xs, false, z⟩, some ⟨flatN ys, false, z1⟩]) (xs.length) (by exact ⟨0, rfl, Nat.zero_le _, fun j h => absurd h (by omega), rfl, rfl⟩) ?_); (rintro n' t' m ⟨k, rfl, hk, hj, rfl, rfl⟩))
      | refine AW.block ?_
      | (refine AW.drawF (id := 6) 8 #[0, 0, 3, 7, 0, 0, 48, 112, 255] kr kr ?_; (conv => (arg 8; simp only [List.take_succ_cons, List.take_zero])))
      | refine AW.region ?_
      | (refine AW.conds rfl (fun hc => ?_) (fun hc => ?_) <;> (try replace hc := nc hc) <;> first | (exfalso; first | contradiction | (first | omega | (simp at hc; done)); done) | skip))
    | ((with_reducible refine AF.on ?_); first
      | ((first | ((with_reducible refine AF.k_move ?_); first | (refine AF.q 0 (SW.q (OQ.move wl) rfl) ?_)) | ((with_reducible refine AF.k_indexAddr ?_); first | refine AF.q 0 (SW.q (OQ.idxAddr (ty := 29) (z := 1) (g := false) rfl rfl kr (by first | omega | decide) (by first | omega | decide)) rfl) ?_) | ((with_reducible refine AF.k_load ?_); first | (refine AF.ql rfl (SW.q (OQ.load1 (ty := 3) rfl kr (by first | (first | exact hgX k (by omega) | exact hgY k (by omega)) | (conv => lhs; whnf))) rfl) ?_))); (conv => (arg 9; try tactic => exact nrmF)); (conv => (arg 11; try simp only [List.nil_append, List.cons_append])))
      | (refine AF.nil ?_ kr; (conv => (arg 4; simp only [List.drop_succ_cons, List.drop_zero, List.drop_nil]))))
    | ((with_reducible refine ex_on ?_); (refine ⟨xs.length - (k + 1), _, _, by omega, ?_, k + 1, rfl, by omega, fun j h => (by rcases Nat.lt_or_eq_of_le (Nat.le_of_lt_succ h) with h | rfl; (exact hj j h); omega), rfl, rfl⟩; exact Wk.forget [true, true, false, false, false, true, false, false, false, false, false, false, false, false, false, false, false, false, false, false, false, false, false, false, false, false] rfl))
    | ((with_reducible refine FinP.on ?_); (first | refine FinP.ret (.tmp wl .nil) ?_ rfl | refine FinP.end (.tmp wl .nil) ?_ rfl); (try simp only [pack, List.drop, List.take]); all_goals (first | (rw [h1 (by omega)]; done) | (rw [h2 k (by omega)]; done) | (obtain rfl : k = xs.length := (by omega); rw [h3 (by omega) hj]))))
theorem Ints_q {m : Mem} {b b' n n' c d : Nat} {X Y : Blk} (xs ys : List Int) (hl : xs.length ≤ 1000000) (x1 : m.at b = some X) (x2 : X.cells = flatN xs) (hn : xs.length = n) (y1 : m.at b' = some Y) (y2 : Y.cells = flatN ys) (hn' : ys.length = n') (x3 : X.obj = Ob.plain := by rfl) (y3 : Y.obj = Ob.plain := by rfl) :
    PCalls Try.prog 13 [.slice (some ⟨b, 0, none⟩) n c, .slice (some ⟨b', 0, none⟩) n' d] m (.bool (decide (xs = ys))) := by
  subst hn hn'
  exact PCalls.viaS [b, b'] (Ints_0 xs ys hl c d X.esz Y.esz) (ro2p _ _ rfl rfl) ⟨⟨_, x1, by unfold Blk.shp Blk.shpR; rw [x3]; rfl, (fun h => nomatch h), .inl ⟨x2, flatN_scal _⟩⟩, ⟨_, y1, by unfold Blk.shp Blk.shpR; rw [y3]; rfl, (fun h => nomatch h), .inl ⟨y2, flatN_scal _⟩⟩, trivial⟩ rfl rfl rfl rfl
theorem Sides_q {m : Mem} {bP bT n k c c2 : Nat} (l : List Pn) (ts : List T3) (hA : ArgN m bP bT l ts) (hn : l.length = n) (hk : ts.length = k) (hR : NetR l ts) :
    ACalls Try.prog 18 [.agg #[.slice (some ⟨bP, 0, none⟩) n c, .slice (some ⟨bT, 0, none⟩) k c2]] m (.tuple #[.slice (some ⟨m.length, 0, none⟩) (sdL ts).length INF, .int .i64 0]) (m ++ [some ⟨flatP (sdL ts), true, 2⟩]) := by
  subst hn hk
  obtain ⟨⟨A, h1, h2, h3, h4⟩, ⟨B, h5, h6, h7⟩, hne⟩ := hA
  have h := ACalls.viaS (m := m) (args := [.agg #[.slice (some ⟨bP, 0, none⟩) l.length c, .slice (some ⟨bT, 0, none⟩) ts.length c2]]) (v := .tuple #[.slice (some ⟨m.length, 0, none⟩) (sdL ts).length INF, .int .i64 0]) [bP, bT] [] [some ⟨flatP (sdL ts), true, 2⟩] (Sides_y0 l ts c c2 A.esz B.esz h3 hR) ⟨⟨_, h1, by unfold Blk.shp Blk.shpR; rw [h4]; rfl, (fun h => nomatch h), .inl ⟨h2, flatP_scal _⟩⟩, ⟨_, h5, by unfold Blk.shp Blk.shpR; rw [h7]; rfl, (fun h => nomatch h), .inl ⟨h6, flatT_scal _⟩⟩, trivial⟩ (by simpa using hne) ⟨⟨_, rfl, rfl⟩, ⟨_, rfl, rfl⟩, ⟨rfl, rfl, rfl, .inl ⟨rfl, flatP_scal _⟩⟩, trivial⟩ rfl rfl rfl rfl
  exact h
end Go.Proofs.Ytmohcmghbfhdlaa
end
end
/- Chapter 6: the law's examples (awake). -/
section
set_option linter.unusedSimpArgs false
set_option linter.unusedVariables false
section
namespace Go.Proofs.Ytmohcmghbfhdlaa
open Go Go.RowKit Go.Ab Go.Me
set_option maxRecDepth 100000
set_option maxHeartbeats 4000000
attribute [local irreducible] OQ OW AL AW AD AF SW
theorem Unwrap_q {m : Mem} {bP bT bF bC n k j i c c2 c3 c4 : Nat} {F C : Blk} (hA : ArgN m bP bT l0 ts0) (hn : 3 = n) (hk : 1 = k) (f1 : m.at bF = some F) (f2 : F.cells = flatN ph0) (hj : 3 = j) (c1 : m.at bC = some C) (c2' : C.cells = flatN cs0) (hi : 3 = i) (hd : [bP, bT, bF, bC].Nodup) (f3 : F.obj = Ob.plain := by rfl) (c3' : C.obj = Ob.plain := by rfl) :
    ACalls Try.prog 25 [.agg #[.slice (some ⟨bP, 0, none⟩) n c, .slice (some ⟨bT, 0, none⟩) k c2, .slice (some ⟨bF, 0, none⟩) j c3, .slice (some ⟨bC, 0, none⟩) i c4]] m (.tuple #[.slice (some ⟨m.length, 0, none⟩) 3 3, .slice (some ⟨m.length + 1, 0, none⟩) 1 INF, .int .i64 3, .int .i64 0]) (m ++ [some ⟨flatN [0, 1, 0], true, 1⟩, some ⟨flatN (faK (wyN rs1 (wyF [-1] 1) 2) 1), true, 1⟩]) := by
  subst hn hk hj hi
  obtain ⟨⟨A, a1, a2, h3, a3⟩, ⟨B, b1, b2, b3⟩, _⟩ := hA
  have h0 := Unwrap_y0 l0 ts0 ph0 cs0 ta0 1 [0, 1, 0] le0 (by decide) 2 (by show WyR (acL ts0 cs0 [0, 1, 0] 3) (wyF [-1] 1) 2; rw [ac01]; exact wy01) c c2 c3 c4 A.esz B.esz F.esz C.esz h3
  have hel : (edL ts0).length = 3 := by rw [ed0]; rfl
  rw [hel, co0] at h0
  have hac : acL ts0 cs0 [0, 1, 0] ([0, 1, 0] : List Int).length = rs1 := ac01
  rw [hac] at h0
  have h := ACalls.viaS (m := m) (args := [.agg #[.slice (some ⟨bP, 0, none⟩) 3 c, .slice (some ⟨bT, 0, none⟩) 1 c2, .slice (some ⟨bF, 0, none⟩) 3 c3, .slice (some ⟨bC, 0, none⟩) 3 c4]]) (v := .tuple #[.slice (some ⟨m.length, 0, none⟩) 3 3, .slice (some ⟨m.length + 1, 0, none⟩) 1 INF, .int .i64 3, .int .i64 0]) [bP, bT, bF, bC] [] [some ⟨flatN [0, 1, 0], true, 1⟩, some ⟨flatN (faK (wyN rs1 (wyF [-1] 1) 2) 1), true, 1⟩] h0
    ⟨⟨_, a1, by unfold Blk.shp Blk.shpR; rw [a3]; rfl, (fun h => nomatch h), .inl ⟨a2, flatP_scal _⟩⟩, ⟨_, b1, by unfold Blk.shp Blk.shpR; rw [b3]; rfl, (fun h => nomatch h), .inl ⟨b2, flatT_scal _⟩⟩, ⟨_, f1, by unfold Blk.shp Blk.shpR; rw [f3]; rfl, (fun h => nomatch h), .inl ⟨f2, flatN_scal _⟩⟩, ⟨_, c1, by unfold Blk.shp Blk.shpR; rw [c3']; rfl, (fun h => nomatch h), .inl ⟨c2', flatN_scal _⟩⟩, trivial⟩ hd ⟨⟨_, rfl, rfl⟩, ⟨_, rfl, rfl⟩, ⟨_, rfl, rfl⟩, ⟨_, rfl, rfl⟩, ⟨rfl, rfl, rfl, .inl ⟨rfl, flatN_scal _⟩⟩, ⟨rfl, rfl, rfl, .inl ⟨rfl, flatN_scal _⟩⟩, trivial⟩ rfl rfl rfl rfl
  exact h
end Go.Proofs.Ytmohcmghbfhdlaa
end
end
/- Chapter 6: the law's examples, walked (awake). -/
section
set_option linter.unusedSimpArgs false
set_option linter.unusedVariables false
section
namespace Go.Proofs.Ytmohcmghbfhdlaa
open Go Go.RowKit Go.Ab Go.Me
set_option maxRecDepth 100000
set_option maxHeartbeats 4000000
theorem eqr_t45 (d : Nat) (w : World) (a0 a1 b0 b1 : Int) : (Op.equalIn (d + 2) 45 (.agg #[.int .i64 a0, .int .i64 a1]) (.agg #[.int .i64 b0, .int .i64 b1])).run Try.prog w = .ok (decide ((a0, a1) = (b0, b1))) w := by
  unfold Op.equalIn
  simp [Try.underlying45, run_underlying, go_sem, List.range', List.forIn_cons]
  by_cases h0 : a0 = b0
  case neg => simp [h0]
  by_cases h1 : a1 = b1
  case neg => simp [h0, h1]
  simp [h0, h1]
theorem eql_t45 {t : T} {m : Mem} {dst : Option Tmp} {rt ty' : TypeId} {pos : String} {after : Array Edge} {guard : Option (Nat × Bool)} {x y : Operand} {a0 a1 b0 b1 : Int} (hx : t.ev x = (.agg #[.int .i64 a0, .int .i64 a1])) (hy : t.ev y = (.agg #[.int .i64 b0, .int .i64 b1])) :
    OQ Try.prog ⟨dst, .binOp .eql 45 x y ty', rt, pos, after, guard⟩ t m (.bool (decide ((a0, a1) = (b0, b1)))) := by
  refine OQ.closed (fun cs b => by simp) (fun z hz => ?_) (fun w => ?_) rfl
  · simp [Op.operands] at hz
    rcases hz with rfl | rfl
    · rw [hx]; rfl
    · rw [hy]; rfl
  · have e := eqr_t45 9998 w a0 a1 b0 b1
    have hgt : (Try.prog).eqGuardType (Try.prog).depth 45 = false := by kernel_rfl
    have hg : (eqGuard .eql 45 x y (t.ev x) (t.ev y)).run Try.prog w = .ok () w := by
      rw [hx, hy]
      simp [eqGuard, program, Sem.run, Sem.run_bind, hgt]
    rw [hx, hy] at hg
    simp only [execOp, hx, hy, Sem.run_bind, hg, Result.andThen_ok, binOp, Op.equal, Op.maxDepth]
    erw [e]
    simp [go_sem]
attribute [local irreducible] OQ OW AL AW AD AF SW
theorem Ints_t {m : Mem} {b b' n n' c d : Nat} {X Y : Blk} (xs : List Int) (hl : xs.length ≤ 1000000) (x1 : m.at b = some X) (x2 : X.cells = flatN xs) (hn : xs.length = n) (y1 : m.at b' = some Y) (y2 : Y.cells = flatN xs) (hn' : xs.length = n') (x3 : X.obj = Ob.plain := by rfl) (y3 : Y.obj = Ob.plain := by rfl) :
    PCalls Try.prog 13 [.slice (some ⟨b, 0, none⟩) n c, .slice (some ⟨b', 0, none⟩) n' d] m (.bool true) := by
  have h := Ints_q (m := m) (c := c) (d := d) xs xs hl x1 x2 hn y1 y2 hn' x3 y3
  rw [decide_eq_true rfl] at h
  exact h
theorem awake_0 : PCalls Try.prog 6 [] [] (.bool true) := by
  have hH := fun (m : Mem) (b : Nat) (blk : Blk) (h1 : m.at b = some blk) (h2 : blk.cells = flatP sqp) (h3 : blk.esz = 0 ∨ blk.esz = 2) (h4 : blk.obj = Ob.plain) => Hull_y (n := 5) (c := 5) sqp cps fks h1 h2 rfl h3 h4
  rw [hls] at hH
  have hS := fun (m : Mem) (bP bT : Nat) (hA : ArgN m bP bT sqp sqt) => Sides_q (n := 5) (k := 4) (c := 5) (c2 := 4) sqp sqt hA rfl rfl nets
  rw [sds.1] at hS
  have hsd : sdL sqt = [⟨0, -1⟩, ⟨-1, 1⟩, ⟨1, 0⟩, ⟨2, -1⟩, ⟨0, 2⟩, ⟨3, -1⟩, ⟨2, 3⟩, ⟨3, 1⟩] := by
    unfold sdL
    rw [eds]
    kernel_rfl
  rw [hsd] at hS
  have hU := fun (m : Mem) (bP bT bF bC : Nat) (F C : Blk) (hA : ArgN m bP bT l0 ts0) (f1 : m.at bF = some F) (f2 : F.cells = flatN ph0) (f3 : F.obj = Ob.plain) (c1 : m.at bC = some C) (c2 : C.cells = flatN cs0) (c3 : C.obj = Ob.plain) (hd : [bP, bT, bF, bC].Nodup) => Unwrap_q (c := 3) (c2 := 1) (c3 := 3) (c4 := 3) hA rfl rfl f1 f2 rfl c1 c2 rfl hd f3 c3
  have hD := fun (m : Mem) (b : Nat) (blk : Blk) (h1 : m.at b = some blk) (h2 : blk.cells = flatN [9, 12]) (h3 : blk.obj = Ob.plain) => Dispersion_q (n := 2) (c := 2) [9, 12] h1 h2 rfl (by decide) h3
  rw [dsV_9] at hD
  have hF := fun (m : Mem) (bP bT bF bX : Nat) (F X : Blk) (hA : ArgN m bP bT l0 ts0) (f1 : m.at bF = some F) (f2 : F.cells = flatN ph0) (f3 : F.obj = Ob.plain) (x1 : m.at bX = some X) (x2 : X.cells = flatN xs0) (x3 : X.obj = Ob.plain) (hd : [bP, bT, bF, bX].Nodup) => Field_y (n := 3) (k := 1) (j := 3) (i := 3) (c := 3) (c2 := 1) (c3 := 3) (c4 := 3) l0 ts0 ph0 xs0 hA rfl rfl f1 f2 rfl x1 x2 rfl (netE_0.1 net0) ta0.ph tu0 1 fdr0 (by decide) hd f3 x3
  have hfv : (fdN (dfL ts0 ph0) xs0 (edL ts0) (fd0 l0.length (nt ph0 0)) 1).1 = [0, 1500, 2596] := fdv0
  rw [hfv] at hF
  refine PCalls.enter (t := [undef, undef, undef, undef, undef, undef, undef, undef, undef, undef, undef, undef, undef, undef, undef, undef, undef, undef, undef, undef, undef, undef, undef, undef, undef, undef, undef, undef, undef, undef, undef, undef, undef, undef, undef, undef, undef, undef, undef, undef, undef, undef, undef, undef, undef, undef, undef, undef, undef, undef, undef, undef, undef, undef, undef, undef, undef, undef, undef, undef, undef, undef, undef, undef, undef, undef, undef, undef, undef, undef, undef, undef, undef, undef, undef, undef, undef, undef, undef, undef, undef, undef, undef, undef, undef, undef, undef, undef, undef, undef, undef, undef, undef, undef]) Try.func6 rfl (ro_nil) rfl fun E => ?_
  repeat' (first
    | with_reducible refine Then.n ?_
    | with_reducible refine Then.r ?_
    | with_reducible refine Then.x ?_
    | with_reducible refine InB.n ?_
    | with_reducible refine InB.r ?_
    | with_reducible refine InB.hit ?_
    | with_reducible refine InB.miss (by decide) ?_
    | ((with_reducible refine AL.on ?_); first
      | (refine AL.gd rfl ?_; first | (refine AL.gskip rfl rfl ?_; (conv => (arg 5; try tactic => exact nrm))) | (refine AL.gs1 rfl rfl (fun hc => ?_) (fun hc => ?_) <;> (try replace hc := nc hc) <;> first | (exfalso; first | contradiction | (first | omega | (simp at *; done)); done) | (conv => (arg 5; try tactic => exact nrm))) | (refine AL.gs0 rfl rfl (fun hc => ?_) (fun hc => ?_) <;> (try replace hc := nc hc) <;> first | (exfalso; first | contradiction | (first | omega | (simp at *; done)); done) | (conv => (arg 5; try tactic => exact nrm))))
      | ((first | ((with_reducible refine AL.k_move ?_); first | (refine AL.q rfl (OQ.move wl) ?_)) | ((with_reducible refine AL.k_assign ?_); first | (refine AL.q rfl (OQ.assign wl) ?_)) | ((with_reducible refine AL.k_call ?_); first | refine AL.q rfl (OQ.lenS (xt := 42) (r := (none, 2, true)) rfl kr) ?_) | ((with_reducible refine AL.k_extract ?_); first | refine AL.q rfl (OQ.extract rfl rfl) ?_) | ((with_reducible refine AL.k_pick ?_); first | (refine AL.q rfl (OQ.pickT rfl (by with_reducible rfl) wl) ?_) | (refine AL.q rfl (OQ.pickF rfl (by with_reducible rfl) wl) ?_)) | ((with_reducible refine AL.k_binOp ?_); first | refine AL.q rfl (OQ.eql rfl rfl) ?_ | refine AL.q rfl (eql_t45 rfl rfl) ?_) | ((with_reducible refine AL.k_field ?_); first | refine AL.q rfl (OQ.field1 (ty := 38) (i := 0) (n := 1) (off := 0) rfl kr rfl) ?_ | refine AL.q rfl (OQ.fieldL (ty := 59) (i := 0) (n := 2) (off := 0) rfl kr rfl) ?_ | refine AL.q rfl (OQ.field1 (ty := 59) (i := 1) (n := 1) (off := 2) rfl kr rfl) ?_) | ((with_reducible refine AL.k_load ?_); first | refine AL.q rfl (OQ.loadN (ty := 45) (n := 2) rfl kr kr rfl) ?_) | ((with_reducible refine AL.k_indexAddr ?_); first | refine AL.q rfl (OQ.idxAddr (ty := 42) (z := 2) (g := true) rfl rfl kr (by first | omega | decide) (by first | omega | decide)) ?_)); (conv => (arg 5; try tactic => exact nrm)))
      | ((first | ((with_reducible refine AL.k_call ?_); first | refine AL.pcall (g := 27) rfl kr rfl ((by exact hD _ _ _ rfl rfl rfl)) ?_ | refine AL.pcall (g := 13) rfl kr rfl ((by first | exact Ints_t [0, 1, 2, 3] (by decide) rfl rfl rfl rfl rfl rfl | exact Ints_t [0, 1500, 2596] (by decide) rfl rfl rfl rfl rfl rfl)) ?_) | ((with_reducible refine AL.k_build ?_); first | refine AL.q rfl (OQ.buildA (ty := 45) (zs := [.int .i64 0, .int .i64 0]) (n := 1) (k := 2) (g := false) kr rfl kr rfl rfl rfl) ?_)); (conv => (arg 5; try tactic => exact nrm)))
      | ((first | ((with_reducible refine AL.k_call ?_); first | refine AL.acall (g := 24) rfl kr rfl ((by exact Square_q _)) ?_ | refine AL.acall (g := 10) rfl kr rfl ((by exact hH _ _ _ rfl rfl (.inr rfl) rfl)) ?_ | refine AL.acall (g := 18) rfl kr rfl ((by exact hS _ _ _ ⟨⟨_, rfl, rfl, .inr rfl, rfl⟩, ⟨_, rfl, rfl, rfl⟩, by decide⟩)) ?_ | refine AL.acall (g := 26) rfl kr rfl ((by exact Corner_q _)) ?_ | refine AL.acall (g := 25) rfl kr rfl ((by exact hU _ _ _ _ _ _ _ ⟨⟨_, rfl, rfl, .inr rfl, rfl⟩, ⟨_, rfl, rfl, rfl⟩, by decide⟩ rfl rfl rfl rfl rfl rfl (by decide))) ?_ | refine AL.acall (g := 28) rfl kr rfl ((by exact hF _ _ _ _ _ _ _ ⟨⟨_, rfl, rfl, .inr rfl, rfl⟩, ⟨_, rfl, rfl, rfl⟩, by decide⟩ rfl rfl rfl rfl rfl rfl (by decide))) ?_) | ((with_reducible refine AL.k_buildSlice ?_); first | refine AL.w rfl (OW.buildSl (ty := 29) (zs := [.int .i64 0]) (n := 1) (g := false) kr kr rfl rfl rfl (by decide) (by decide) rfl rfl) ?_) | ((with_reducible refine AL.k_alloc ?_); first | refine AL.w rfl (OW.alloc (ty := 45) (z := [.int .i64 0, .int .i64 0]) kr rfl) ?_) | ((with_reducible refine AL.k_store ?_); first | (refine AL.w rfl (OW.store (ty := 45) (n := 2) rfl wl rfl rfl kr rfl rfl (by decide) rfl (Nat.le_of_ble_eq_true rfl) (by intro r h; cases h)) ?_))); (conv => (arg 5; try tactic => exact nrm)); (conv => (arg 6; try tactic => exact nrm)))
      | (refine AL.bs rfl (fun hc => ?_) (fun hc => ?_) <;> (fail_if_success (with_reducible exact lit_no hc)) <;> (try replace hc := nc hc) <;> first | (exfalso; first | contradiction | (first | omega | (simp at *; done)); done) | (conv => (arg 5; try tactic => exact nrm)))
      | refine AL.nil ?_)
    | ((with_reducible refine AW.on ?_); first
      | refine AW.seq ?_
      | refine AW.skip ?_
      | refine AW.exit ?_
      | refine AW.ret ?_
      | refine AW.block ?_
      | refine AW.region ?_
      | (refine AW.conds rfl (fun hc => ?_) (fun hc => ?_) <;> (try replace hc := nc hc) <;> first | (exfalso; first | contradiction | (first | omega | (simp at *; done)); done) | skip))
    | ((with_reducible refine FinP.on ?_); (first | refine FinP.ret (.tmp wl .nil) ?_ rfl | refine FinP.end (.tmp wl .nil) ?_ rfl); (try simp only [pack, List.drop, List.take]); all_goals (rfl)))
theorem awake_q (m : Mem) : PCalls Try.prog 6 [] m (.bool true) := PCalls.any awake_0 rfl rfl m
end Go.Proofs.Ytmohcmghbfhdlaa
end
end
/- Arguments of which lists are in memory, in the small memory. -/
section
set_option linter.unusedSimpArgs false
set_option linter.unusedVariables false
namespace Go.Ls
open Go.ChangeShapes Go.WideShapes Go.ChangeAt Go Go.RowKit Go.Ab
def plL (L : List (Option Addr × List Value)) (b : Nat) : Option Pl := match L[b]? with
  | some x => plX x.1 x.2
  | none => none
theorem glueL {P : Program} {f : FuncId} {args : List Value} {vals : Array Value} {w : World} (L : List (Option Addr × List Value)) (hs : ∀ x ∈ L, x.2.all scal = true ∧ SlX w x.1 x.2) (hv : VRel (plL L) (.tuple args.toArray) (.tuple vals))
    (h : PCalls P f args (L.map fun x => blX x.2) (.bool true)) : Calls P f vals w fun e w' => e = .returned (.bool true) ∧ Below w.heap.size w w' := by
  refine (h (plL L) _ w (fun b pl hb => ?_) hv (fun b blk hb => ?_)).mono fun e w' ⟨v', he, hr, hb⟩ => ⟨by rw [he, hr.bool], hb.below⟩
  · unfold plL at hb
    cases hx : L[b]? with
    | none => rw [hx] at hb; cases hb
    | some x =>
      have := (List.getElem?_eq_some_iff.1 hx).1
      simpa using this
  · have hlt := Mem.at_lt hb
    have hlt' : b < L.length := by simpa using hlt
    have hx : L[b]? = some L[b] := List.getElem?_eq_getElem hlt'
    obtain ⟨h1, h2⟩ := hs _ (List.getElem_mem hlt')
    have hb' : blX L[b].2 = some blk := by simpa [Mem.at, hx] using hb
    obtain ⟨pl, k1, k2⟩ := blX_rel (ρ := plL L) (i := b) h1 h2 (by unfold plL; rw [hx]) hb'
    exact ⟨pl, k1, k2, fun ho => by rw [blX_ro _ _ hb'] at ho; cases ho⟩
theorem okWide_array {P : Program} {w : World} {r : Reach} {base n : Nat} {t e : TypeId} {v : Value} (ht : P.underlying t = some (.array n e)) (h : Value.okWide P w r base t v) : ∃ cs, v = .agg cs ∧ cs.size = P.cellsOf t := by
  simp only [Value.okWide, ht] at h
  obtain ⟨cs, h1, h2, _⟩ := h
  exact ⟨cs, h1, h2⟩
section
variable {H : Type} {enc : TypeId × Value → H} {P : Program}
theorem post_below {f : Func} {s : ChangeSpec} {apart fresh handsOn again : Bool} {W W' : World} {args : Array Value} {v : Value} {ds gs : List (DataW H)} {before pa pv : List MemPlace}
    (hW : DataW.Whole enc P f.params.toList s.vars apart W args.toList ds gs before)
    (hres : ∀ (b : Nat) (sp : Nat → Bool) (hd : Bool), DataW.TrodAll enc P W' b sp hd f.resultTypes.toList (v.resultList f.resultTypes.size) (s.fn H (ds ++ gs)).results [])
    (hargs : ∀ sp : Nat → Bool, (∀ p ∈ before, sp p.block = true) → DataW.TrodAll enc P W' 0 sp true f.params.toList args.toList (s.fn H (ds ++ gs)).args pa)
    (hvars : ∀ sp : Nat → Bool, (∀ p ∈ before, sp p.block = true) → DataW.TrodVars enc P W' sp s.vars (s.fn H (ds ++ gs)).vars pv)
    (hps : before = pa ++ pv) (hb : Below W.heap.size W W')
    (hok : ∀ (j : Nat) (t : TypeId) (r : Value), f.resultTypes[j]? = some t → (v.resultList f.resultTypes.size)[j]? = some r → Value.okWide P W' .any 0 t r) :
    s.post enc P f apart fresh handsOn again W args v W' := by
  have hlt : ∀ p ∈ before, p.block < W.heap.size := fun p hp => hW.lt p hp
  have hold : ∀ p ∈ before, (fun b => decide (b < W.heap.size)) p.block = true := fun p hp => by simpa using hlt p hp
  refine ⟨ds, gs, before, [], pa, pv, hW, hres _ _ _, hargs _ hold, hvars _ hold, World.keptBut_mono (fun p hp => ⟨hp, ?_⟩) (hb.frame (· ∈ before)), fun _ => ?_⟩
  · rw [hps, List.mem_append] at hp
    exact Or.inr hp
  · obtain ⟨_, _, _, _, _, hz, hn⟩ := hW
    refine ⟨hok, _, _, ([] ++ pa) ++ pv, ⟨[] ++ pa, pv, trodAll_append (hargs _ (fun _ _ => rfl)) (hres _ _ _), hvars _ (fun _ _ => rfl), rfl, ?_, ?_⟩, ?_⟩
    · intro b off hp
      have hin : MemPlace.cell b off ∈ before := by rw [hps]; simpa using hp
      rw [hb.frozen (hlt _ hin)]
      exact hz b off hin
    · intro ha
      have := hn ha
      rw [hps] at this
      simpa using this
    · intro p hp _
      rw [hps]
      simpa using hp
end
end Go.Ls
end
/- How the arguments of the statements of chapter 6 read. -/
section
set_option linter.unusedSimpArgs false
set_option linter.unusedVariables false
section
namespace Go.Proofs.Ytmohcmghbfhdlaa
open Go.ChangeShapes Go.WideShapes Go.ChangeAt Go Go.RowKit Go.Ab Go.Ls Go.Me
set_option maxRecDepth 100000
theorem laid : laidOutB Try.prog = true := by kernel_rfl
theorem own : ownKnob Try.prog.godebug = none := by kernel_rfl
end Go.Proofs.Ytmohcmghbfhdlaa
end
end
