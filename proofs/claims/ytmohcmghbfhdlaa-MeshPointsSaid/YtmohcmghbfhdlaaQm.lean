/- Chapter 6: equal lists of numbers; Sides and Unwrap in a greater memory. -/
import Derived.Test.YtmohcmghbfhdlaaQc
import Derived.Test.YtmohcmghbfhdlaaQl
import Derived.Test.YtmohcmghbfhdlaaQf
import Derived.Test.YtmohcmghbfhdlaaQd
import Derived.Test.YtmohcmghbfhdlaaProg
section
set_option linter.unusedSimpArgs false
set_option linter.unusedVariables false
section
namespace Go.Me
open Go.Ab Go.Proofs.Ytmohcmghbfhdlaa
theorem nts_eq {xs ys : List Int} (hl : xs.length = ys.length) (h : ∀ k, k < xs.length → nt xs k = nt ys k) : xs = ys := by
  refine List.ext_getElem hl fun i h1 h2 => ?_
  have := h i h1
  unfold nt at this
  rw [List.getD_eq_getElem?_getD, List.getD_eq_getElem?_getD, List.getElem?_eq_getElem h1, List.getElem?_eq_getElem h2] at this
  exact this
end Go.Me
namespace Go.Proofs.Ytmohcmghbfhdlaa
open Go Go.RowKit Go.Ab Go.Me
set_option maxRecDepth 100000
set_option maxHeartbeats 4000000
attribute [local irreducible] OQ OW AL AW AD AF SW
theorem Ints_0 (xs ys : List Int) (hl : xs.length ≤ 1000000) (c d z z1 : Nat) :
    PCalls Try.prog 13 [.slice (some ⟨0, 0, none⟩) xs.length c, .slice (some ⟨1, 0, none⟩) ys.length d] [some ⟨flatN xs, false, z⟩, some ⟨flatN ys, false, z1⟩] (.bool (decide (xs = ys))) := by
  have hgX : ∀ k, k < xs.length → (flatN xs)[k]? = some (.int .i64 (nt xs k)) := fun k hk => flatN_get _ k hk
  have hgY : ∀ k, k < ys.length → (flatN ys)[k]? = some (.int .i64 (nt ys k)) := fun k hk => flatN_get _ k hk
  have h1 : xs.length ≠ ys.length → decide (xs = ys) = false := fun h => decide_eq_false fun h2 => h (by rw [h2])
  have h2 : ∀ k, nt xs k ≠ nt ys k → decide (xs = ys) = false := fun k h => decide_eq_false fun h2 => h (by rw [h2])
  have h3 : xs.length = ys.length → (∀ j, j < xs.length → nt xs j = nt ys j) → decide (xs = ys) = true := fun h h2 => decide_eq_true (nts_eq h h2)
  generalize decide (xs = ys) = B0 at *
  refine PCalls.enter (t := [.slice (some ⟨0, 0, none⟩) xs.length c, .slice (some ⟨1, 0, none⟩) ys.length d, undef, undef, undef, undef, undef, undef, undef, undef, undef, undef, undef, undef, undef, undef, undef, undef, undef, undef, undef, undef, undef, undef, undef, undef]) Try.func13 rfl (ro2p _ _ rfl rfl) rfl fun E => ?_
  repeat' (first
    | with_reducible refine Then.n ?_
    | with_reducible refine Then.r ?_
    | with_reducible refine Then.x ?_
    | with_reducible refine InB.n ?_
    | with_reducible refine InB.r ?_
    | with_reducible refine InB.hit ?_
    | with_reducible refine InB.miss (by decide) ?_
    | ((with_reducible refine AL.on ?_); first
      | ((first | ((with_reducible refine AL.k_move ?_); first | (refine AL.q rfl (OQ.move wl) ?_)) | ((with_reducible refine AL.k_assign ?_); first | (refine AL.q rfl (OQ.assign wl) ?_)) | ((with_reducible refine AL.k_binOp ?_); first | refine AL.q rfl (OQ.neq rfl rfl) ?_ | refine AL.q rfl (OQ.lss rfl rfl) ?_ | refine AL.q rfl (OQ.addi rfl rfl (by omega)) ?_ | refine AL.q rfl (OQ.add rfl rfl) ?_) | ((with_reducible refine AL.k_call ?_); first | refine AL.q rfl (OQ.lenS (xt := 29) (r := (none, 1, false)) rfl kr) ?_)); (conv => (arg 5; try tactic => exact nrm)))
      | refine AL.nil ?_)
    | ((with_reducible refine AW.on ?_); first
      | refine AW.seq ?_
      | refine AW.skip ?_
      | refine AW.exit ?_
      | refine AW.ret ?_
      | ((refine AW.block (id := 0) ?_); (refine AW.wk (Wk.forget [true, true, false, false, false, true, false, false, false, false, false, false, false, false, false, false, false, false, false, false, false, false, false, false, false, false] rfl) ?_); (conv => (arg 4; simp only [fgt, if_true, if_false, Bool.false_eq_true])); (refine AW.loop (fun n' t' m => ∃ k : Nat, n' = xs.length - k ∧ k ≤ xs.length ∧ (∀ j, j < k → nt xs j = nt ys j) ∧ t' = [.slice (some ⟨0, 0, none⟩) xs.length c, .slice (some ⟨1, 0, none⟩) ys.length d, junk, junk, junk, .int .i64 (k), junk, junk, junk, junk, junk, junk, junk, junk, junk, junk, junk, junk, junk, junk, junk, junk, junk, junk, junk, junk] ∧ m = [some ⟨flatN xs, false, z⟩, some ⟨flatN ys, false, z1⟩]) (xs.length) (by exact ⟨0, rfl, Nat.zero_le _, fun j h => absurd h (by omega), rfl, rfl⟩) ?_); (rintro n' t' m ⟨k, rfl, hk, hj, rfl, rfl⟩))
      | refine AW.block ?_
      | (refine AW.drawF (id := 6) 8 #[0, 0, 3, 7, 0, 0, 48, 112, 255] kr kr ?_; (conv => (arg 8; simp only [List.take_succ_cons, List.take_zero])))
      | refine AW.region ?_
      | (refine AW.conds rfl (fun hc => ?_) (fun hc => ?_) <;> (try replace hc := nc hc) <;> first | (exfalso; first | contradiction | (first | omega | (simp at hc; done)); done) | skip))
    | ((with_reducible refine AF.on ?_); first
      | ((first | ((with_reducible refine AF.k_move ?_); first | (refine AF.q 0 (SW.q (OQ.move wl) rfl) ?_)) | ((with_reducible refine AF.k_indexAddr ?_); first | refine AF.q 0 (SW.q (OQ.idxAddr (ty := 29) (z := 1) (g := false) rfl rfl kr (by first | omega | decide) (by first | omega | decide)) rfl) ?_) | ((with_reducible refine AF.k_load ?_); first | (refine AF.ql rfl (SW.q (OQ.load1 (ty := 3) rfl kr (by first | (first | exact hgX k (by omega) | exact hgY k (by omega)) | (conv => lhs; whnf))) rfl) ?_))); (conv => (arg 9; try tactic => exact nrmF)); (conv => (arg 11; try simp only [List.nil_append, List.cons_append])))
      | (refine AF.nil ?_ kr; (conv => (arg 4; simp only [List.drop_succ_cons, List.drop_zero, List.drop_nil]))))
    | ((with_reducible refine ex_on ?_); (refine ⟨xs.length - (k + 1), _, _, by omega, ?_, k + 1, rfl, by omega, fun j h => (by rcases Nat.lt_or_eq_of_le (Nat.le_of_lt_succ h) with h | rfl; (exact hj j h); omega), rfl, rfl⟩; exact Wk.forget [true, true, false, false, false, true, false, false, false, false, false, false, false, false, false, false, false, false, false, false, false, false, false, false, false, false] rfl))
    | ((with_reducible refine FinP.on ?_); (first | refine FinP.ret (.tmp wl .nil) ?_ rfl | refine FinP.end (.tmp wl .nil) ?_ rfl); (try simp only [pack, List.drop, List.take]); all_goals (first | (rw [h1 (by omega)]; done) | (rw [h2 k (by omega)]; done) | (obtain rfl : k = xs.length := (by omega); rw [h3 (by omega) hj]))))
theorem Ints_q {m : Mem} {b b' n n' c d : Nat} {X Y : Blk} (xs ys : List Int) (hl : xs.length ≤ 1000000) (x1 : m.at b = some X) (x2 : X.cells = flatN xs) (hn : xs.length = n) (y1 : m.at b' = some Y) (y2 : Y.cells = flatN ys) (hn' : ys.length = n') (x3 : X.obj = Ob.plain := by rfl) (y3 : Y.obj = Ob.plain := by rfl) :
    PCalls Try.prog 13 [.slice (some ⟨b, 0, none⟩) n c, .slice (some ⟨b', 0, none⟩) n' d] m (.bool (decide (xs = ys))) := by
  subst hn hn'
  exact PCalls.viaS [b, b'] (Ints_0 xs ys hl c d X.esz Y.esz) (ro2p _ _ rfl rfl) ⟨⟨_, x1, by unfold Blk.shp Blk.shpR; rw [x3]; rfl, (fun h => nomatch h), .inl ⟨x2, flatN_scal _⟩⟩, ⟨_, y1, by unfold Blk.shp Blk.shpR; rw [y3]; rfl, (fun h => nomatch h), .inl ⟨y2, flatN_scal _⟩⟩, trivial⟩ rfl rfl rfl rfl
theorem Sides_q {m : Mem} {bP bT n k c c2 : Nat} (l : List Pn) (ts : List T3) (hA : ArgN m bP bT l ts) (hn : l.length = n) (hk : ts.length = k) (hR : NetR l ts) :
    ACalls Try.prog 18 [.agg #[.slice (some ⟨bP, 0, none⟩) n c, .slice (some ⟨bT, 0, none⟩) k c2]] m (.tuple #[.slice (some ⟨m.length, 0, none⟩) (sdL ts).length INF, .int .i64 0]) (m ++ [some ⟨flatP (sdL ts), true, 2⟩]) := by
  subst hn hk
  obtain ⟨⟨A, h1, h2, h3, h4⟩, ⟨B, h5, h6, h7⟩, hne⟩ := hA
  have h := ACalls.viaS (m := m) (args := [.agg #[.slice (some ⟨bP, 0, none⟩) l.length c, .slice (some ⟨bT, 0, none⟩) ts.length c2]]) (v := .tuple #[.slice (some ⟨m.length, 0, none⟩) (sdL ts).length INF, .int .i64 0]) [bP, bT] [] [some ⟨flatP (sdL ts), true, 2⟩] (Sides_y0 l ts c c2 A.esz B.esz h3 hR) ⟨⟨_, h1, by unfold Blk.shp Blk.shpR; rw [h4]; rfl, (fun h => nomatch h), .inl ⟨h2, flatP_scal _⟩⟩, ⟨_, h5, by unfold Blk.shp Blk.shpR; rw [h7]; rfl, (fun h => nomatch h), .inl ⟨h6, flatT_scal _⟩⟩, trivial⟩ (by simpa using hne) ⟨⟨_, rfl, rfl⟩, ⟨_, rfl, rfl⟩, ⟨rfl, rfl, rfl, .inl ⟨rfl, flatP_scal _⟩⟩, trivial⟩ rfl rfl rfl rfl
  exact h
theorem flatO_N (ns : List Nat) : flatO ns = flatN (ns.map Int.ofNat) := by
  unfold flatO flatN
  rw [List.map_map]
  rfl
end Go.Proofs.Ytmohcmghbfhdlaa
end
end
/- Chapter 6: the law's examples (awake). -/
section
set_option linter.unusedSimpArgs false
set_option linter.unusedVariables false
section
namespace Go.Proofs.Ytmohcmghbfhdlaa
open Go Go.RowKit Go.Ab Go.Me
set_option maxRecDepth 100000
set_option maxHeartbeats 4000000
attribute [local irreducible] OQ OW AL AW AD AF SW
theorem Unwrap_q {m : Mem} {bP bT bF bC n k j i c c2 c3 c4 : Nat} {F C : Blk} (hA : ArgN m bP bT l0 ts0) (hn : 3 = n) (hk : 1 = k) (f1 : m.at bF = some F) (f2 : F.cells = flatN ph0) (hj : 3 = j) (c1 : m.at bC = some C) (c2' : C.cells = flatN cs0) (hi : 3 = i) (hd : [bP, bT, bF, bC].Nodup) (f3 : F.obj = Ob.plain := by rfl) (c3' : C.obj = Ob.plain := by rfl) :
    ACalls Try.prog 25 [.agg #[.slice (some ⟨bP, 0, none⟩) n c, .slice (some ⟨bT, 0, none⟩) k c2, .slice (some ⟨bF, 0, none⟩) j c3, .slice (some ⟨bC, 0, none⟩) i c4]] m (.tuple #[.slice (some ⟨m.length, 0, none⟩) 3 3, .slice (some ⟨m.length + 1, 0, none⟩) 1 INF, .int .i64 3, .int .i64 0]) (m ++ [some ⟨flatN [0, 1, 0], true, 1⟩, some ⟨flatN (faK (wyN rs1 (wyF [-1] 1) 2) 1), true, 1⟩]) := by
  subst hn hk hj hi
  obtain ⟨⟨A, a1, a2, h3, a3⟩, ⟨B, b1, b2, b3⟩, _⟩ := hA
  have h0 := Unwrap_y0 l0 ts0 ph0 cs0 ta0 1 [0, 1, 0] le0 (by decide) 2 (by show WyR (acL ts0 cs0 [0, 1, 0] 3) (wyF [-1] 1) 2; rw [ac01]; exact wy01) c c2 c3 c4 A.esz B.esz F.esz C.esz h3
  have hel : (edL ts0).length = 3 := by rw [ed0]; rfl
  rw [hel, co0] at h0
  have hac : acL ts0 cs0 [0, 1, 0] ([0, 1, 0] : List Int).length = rs1 := ac01
  rw [hac] at h0
  have h := ACalls.viaS (m := m) (args := [.agg #[.slice (some ⟨bP, 0, none⟩) 3 c, .slice (some ⟨bT, 0, none⟩) 1 c2, .slice (some ⟨bF, 0, none⟩) 3 c3, .slice (some ⟨bC, 0, none⟩) 3 c4]]) (v := .tuple #[.slice (some ⟨m.length, 0, none⟩) 3 3, .slice (some ⟨m.length + 1, 0, none⟩) 1 INF, .int .i64 3, .int .i64 0]) [bP, bT, bF, bC] [] [some ⟨flatN [0, 1, 0], true, 1⟩, some ⟨flatN (faK (wyN rs1 (wyF [-1] 1) 2) 1), true, 1⟩] h0
    ⟨⟨_, a1, by unfold Blk.shp Blk.shpR; rw [a3]; rfl, (fun h => nomatch h), .inl ⟨a2, flatP_scal _⟩⟩, ⟨_, b1, by unfold Blk.shp Blk.shpR; rw [b3]; rfl, (fun h => nomatch h), .inl ⟨b2, flatT_scal _⟩⟩, ⟨_, f1, by unfold Blk.shp Blk.shpR; rw [f3]; rfl, (fun h => nomatch h), .inl ⟨f2, flatN_scal _⟩⟩, ⟨_, c1, by unfold Blk.shp Blk.shpR; rw [c3']; rfl, (fun h => nomatch h), .inl ⟨c2', flatN_scal _⟩⟩, trivial⟩ hd ⟨⟨_, rfl, rfl⟩, ⟨_, rfl, rfl⟩, ⟨_, rfl, rfl⟩, ⟨_, rfl, rfl⟩, ⟨rfl, rfl, rfl, .inl ⟨rfl, flatN_scal _⟩⟩, ⟨rfl, rfl, rfl, .inl ⟨rfl, flatN_scal _⟩⟩, trivial⟩ rfl rfl rfl rfl
  exact h
end Go.Proofs.Ytmohcmghbfhdlaa
end
end
/- Chapter 6: the law's examples, walked (awake). -/
section
set_option linter.unusedSimpArgs false
set_option linter.unusedVariables false
section
namespace Go.Proofs.Ytmohcmghbfhdlaa
open Go Go.RowKit Go.Ab Go.Me
set_option maxRecDepth 100000
set_option maxHeartbeats 4000000
theorem eqr_t45 (d : Nat) (w : World) (a0 a1 b0 b1 : Int) : (Op.equalIn (d + 2) 45 (.agg #[.int .i64 a0, .int .i64 a1]) (.agg #[.int .i64 b0, .int .i64 b1])).run Try.prog w = .ok (decide ((a0, a1) = (b0, b1))) w := by
  unfold Op.equalIn
  simp [Try.underlying45, run_underlying, go_sem, List.range', List.forIn_cons]
  by_cases h0 : a0 = b0
  case neg => simp [h0]
  by_cases h1 : a1 = b1
  case neg => simp [h0, h1]
  simp [h0, h1]
theorem eql_t45 {t : T} {m : Mem} {dst : Option Tmp} {rt ty' : TypeId} {pos : String} {after : Array Edge} {guard : Option (Nat × Bool)} {x y : Operand} {a0 a1 b0 b1 : Int} (hx : t.ev x = (.agg #[.int .i64 a0, .int .i64 a1])) (hy : t.ev y = (.agg #[.int .i64 b0, .int .i64 b1])) :
    OQ Try.prog ⟨dst, .binOp .eql 45 x y ty', rt, pos, after, guard⟩ t m (.bool (decide ((a0, a1) = (b0, b1)))) := by
  refine OQ.closed (fun cs b => by simp) (fun z hz => ?_) (fun w => ?_) rfl
  · simp [Op.operands] at hz
    rcases hz with rfl | rfl
    · rw [hx]; rfl
    · rw [hy]; rfl
  · have e := eqr_t45 9998 w a0 a1 b0 b1
    have hgt : (Try.prog).eqGuardType (Try.prog).depth 45 = false := by kernel_rfl
    have hg : (eqGuard .eql 45 x y (t.ev x) (t.ev y)).run Try.prog w = .ok () w := by
      rw [hx, hy]
      simp [eqGuard, program, Sem.run, Sem.run_bind, hgt]
    rw [hx, hy] at hg
    simp only [execOp, hx, hy, Sem.run_bind, hg, Result.andThen_ok, binOp, Op.equal, Op.maxDepth]
    erw [e]
    simp [go_sem]
attribute [local irreducible] OQ OW AL AW AD AF SW
theorem Ints_t {m : Mem} {b b' n n' c d : Nat} {X Y : Blk} (xs : List Int) (hl : xs.length ≤ 1000000) (x1 : m.at b = some X) (x2 : X.cells = flatN xs) (hn : xs.length = n) (y1 : m.at b' = some Y) (y2 : Y.cells = flatN xs) (hn' : xs.length = n') (x3 : X.obj = Ob.plain := by rfl) (y3 : Y.obj = Ob.plain := by rfl) :
    PCalls Try.prog 13 [.slice (some ⟨b, 0, none⟩) n c, .slice (some ⟨b', 0, none⟩) n' d] m (.bool true) := by
  have h := Ints_q (m := m) (c := c) (d := d) xs xs hl x1 x2 hn y1 y2 hn' x3 y3
  rw [decide_eq_true rfl] at h
  exact h
theorem awake_0 : PCalls Try.prog 6 [] [] (.bool true) := by
  have hH := fun (m : Mem) (b : Nat) (blk : Blk) (h1 : m.at b = some blk) (h2 : blk.cells = flatP sqp) (h3 : blk.esz = 0 ∨ blk.esz = 2) (h4 : blk.obj = Ob.plain) => Hull_y (n := 5) (c := 5) sqp cps fks h1 h2 rfl h3 h4
  rw [hls] at hH
  have hS := fun (m : Mem) (bP bT : Nat) (hA : ArgN m bP bT sqp sqt) => Sides_q (n := 5) (k := 4) (c := 5) (c2 := 4) sqp sqt hA rfl rfl nets
  rw [sds.1] at hS
  have hsd : sdL sqt = [⟨0, -1⟩, ⟨-1, 1⟩, ⟨1, 0⟩, ⟨2, -1⟩, ⟨0, 2⟩, ⟨3, -1⟩, ⟨2, 3⟩, ⟨3, 1⟩] := by
    unfold sdL
    rw [eds]
    kernel_rfl
  rw [hsd] at hS
  have hU := fun (m : Mem) (bP bT bF bC : Nat) (F C : Blk) (hA : ArgN m bP bT l0 ts0) (f1 : m.at bF = some F) (f2 : F.cells = flatN ph0) (f3 : F.obj = Ob.plain) (c1 : m.at bC = some C) (c2 : C.cells = flatN cs0) (c3 : C.obj = Ob.plain) (hd : [bP, bT, bF, bC].Nodup) => Unwrap_q (c := 3) (c2 := 1) (c3 := 3) (c4 := 3) hA rfl rfl f1 f2 rfl c1 c2 rfl hd f3 c3
  have hD := fun (m : Mem) (b : Nat) (blk : Blk) (h1 : m.at b = some blk) (h2 : blk.cells = flatN [9, 12]) (h3 : blk.obj = Ob.plain) => Dispersion_q (n := 2) (c := 2) [9, 12] h1 h2 rfl (by decide) h3
  rw [dsV_9] at hD
  have hF := fun (m : Mem) (bP bT bF bX : Nat) (F X : Blk) (hA : ArgN m bP bT l0 ts0) (f1 : m.at bF = some F) (f2 : F.cells = flatN ph0) (f3 : F.obj = Ob.plain) (x1 : m.at bX = some X) (x2 : X.cells = flatN xs0) (x3 : X.obj = Ob.plain) (hd : [bP, bT, bF, bX].Nodup) => Field_y (n := 3) (k := 1) (j := 3) (i := 3) (c := 3) (c2 := 1) (c3 := 3) (c4 := 3) l0 ts0 ph0 xs0 hA rfl rfl f1 f2 rfl x1 x2 rfl (netE_0.1 net0) ta0.ph tu0 1 fdr0 (by decide) hd f3 x3
  have hfv : (fdN (dfL ts0 ph0) xs0 (edL ts0) (fd0 l0.length (nt ph0 0)) 1).1 = [0, 1500, 2596] := fdv0
  rw [hfv] at hF
  refine PCalls.enter (t := [undef, undef, undef, undef, undef, undef, undef, undef, undef, undef, undef, undef, undef, undef, undef, undef, undef, undef, undef, undef, undef, undef, undef, undef, undef, undef, undef, undef, undef, undef, undef, undef, undef, undef, undef, undef, undef, undef, undef, undef, undef, undef, undef, undef, undef, undef, undef, undef, undef, undef, undef, undef, undef, undef, undef, undef, undef, undef, undef, undef, undef, undef, undef, undef, undef, undef, undef, undef, undef, undef, undef, undef, undef, undef, undef, undef, undef, undef, undef, undef, undef, undef, undef, undef, undef, undef, undef, undef, undef, undef, undef, undef, undef, undef]) Try.func6 rfl (ro_nil) rfl fun E => ?_
  repeat' (first
    | with_reducible refine Then.n ?_
    | with_reducible refine Then.r ?_
    | with_reducible refine Then.x ?_
    | with_reducible refine InB.n ?_
    | with_reducible refine InB.r ?_
    | with_reducible refine InB.hit ?_
    | with_reducible refine InB.miss (by decide) ?_
    | ((with_reducible refine AL.on ?_); first
      | (refine AL.gd rfl ?_; first | (refine AL.gskip rfl rfl ?_; (conv => (arg 5; try tactic => exact nrm))) | (refine AL.gs1 rfl rfl (fun hc => ?_) (fun hc => ?_) <;> (try replace hc := nc hc) <;> first | (exfalso; first | contradiction | (first | omega | (simp at *; done)); done) | (conv => (arg 5; try tactic => exact nrm))) | (refine AL.gs0 rfl rfl (fun hc => ?_) (fun hc => ?_) <;> (try replace hc := nc hc) <;> first | (exfalso; first | contradiction | (first | omega | (simp at *; done)); done) | (conv => (arg 5; try tactic => exact nrm))))
      | ((first | ((with_reducible refine AL.k_move ?_); first | (refine AL.q rfl (OQ.move wl) ?_)) | ((with_reducible refine AL.k_assign ?_); first | (refine AL.q rfl (OQ.assign wl) ?_)) | ((with_reducible refine AL.k_call ?_); first | refine AL.q rfl (OQ.lenS (xt := 42) (r := (none, 2, true)) rfl kr) ?_) | ((with_reducible refine AL.k_extract ?_); first | refine AL.q rfl (OQ.extract rfl rfl) ?_) | ((with_reducible refine AL.k_pick ?_); first | (refine AL.q rfl (OQ.pickT rfl (by with_reducible rfl) wl) ?_) | (refine AL.q rfl (OQ.pickF rfl (by with_reducible rfl) wl) ?_)) | ((with_reducible refine AL.k_binOp ?_); first | refine AL.q rfl (OQ.eql rfl rfl) ?_ | refine AL.q rfl (eql_t45 rfl rfl) ?_) | ((with_reducible refine AL.k_field ?_); first | refine AL.q rfl (OQ.field1 (ty := 38) (i := 0) (n := 1) (off := 0) rfl kr rfl) ?_ | refine AL.q rfl (OQ.fieldL (ty := 59) (i := 0) (n := 2) (off := 0) rfl kr rfl) ?_ | refine AL.q rfl (OQ.field1 (ty := 59) (i := 1) (n := 1) (off := 2) rfl kr rfl) ?_) | ((with_reducible refine AL.k_load ?_); first | refine AL.q rfl (OQ.loadN (ty := 45) (n := 2) rfl kr kr rfl) ?_) | ((with_reducible refine AL.k_indexAddr ?_); first | refine AL.q rfl (OQ.idxAddr (ty := 42) (z := 2) (g := true) rfl rfl kr (by first | omega | decide) (by first | omega | decide)) ?_)); (conv => (arg 5; try tactic => exact nrm)))
      | ((first | ((with_reducible refine AL.k_call ?_); first | refine AL.pcall (g := 27) rfl kr rfl ((by exact hD _ _ _ rfl rfl rfl)) ?_ | refine AL.pcall (g := 13) rfl kr rfl ((by first | exact Ints_t [0, 1, 2, 3] (by decide) rfl rfl rfl rfl rfl rfl | exact Ints_t [0, 1500, 2596] (by decide) rfl rfl rfl rfl rfl rfl)) ?_) | ((with_reducible refine AL.k_build ?_); first | refine AL.q rfl (OQ.buildA (ty := 45) (zs := [.int .i64 0, .int .i64 0]) (n := 1) (k := 2) (g := false) kr rfl kr rfl rfl rfl) ?_)); (conv => (arg 5; try tactic => exact nrm)))
      | ((first | ((with_reducible refine AL.k_call ?_); first | refine AL.acall (g := 24) rfl kr rfl ((by exact Square_q _)) ?_ | refine AL.acall (g := 10) rfl kr rfl ((by exact hH _ _ _ rfl rfl (.inr rfl) rfl)) ?_ | refine AL.acall (g := 18) rfl kr rfl ((by exact hS _ _ _ ⟨⟨_, rfl, rfl, .inr rfl, rfl⟩, ⟨_, rfl, rfl, rfl⟩, by decide⟩)) ?_ | refine AL.acall (g := 26) rfl kr rfl ((by exact Corner_q _)) ?_ | refine AL.acall (g := 25) rfl kr rfl ((by exact hU _ _ _ _ _ _ _ ⟨⟨_, rfl, rfl, .inr rfl, rfl⟩, ⟨_, rfl, rfl, rfl⟩, by decide⟩ rfl rfl rfl rfl rfl rfl (by decide))) ?_ | refine AL.acall (g := 28) rfl kr rfl ((by exact hF _ _ _ _ _ _ _ ⟨⟨_, rfl, rfl, .inr rfl, rfl⟩, ⟨_, rfl, rfl, rfl⟩, by decide⟩ rfl rfl rfl rfl rfl rfl (by decide))) ?_) | ((with_reducible refine AL.k_buildSlice ?_); first | refine AL.w rfl (OW.buildSl (ty := 29) (zs := [.int .i64 0]) (n := 1) (g := false) kr kr rfl rfl rfl (by decide) (by decide) rfl rfl) ?_) | ((with_reducible refine AL.k_alloc ?_); first | refine AL.w rfl (OW.alloc (ty := 45) (z := [.int .i64 0, .int .i64 0]) kr rfl) ?_) | ((with_reducible refine AL.k_store ?_); first | (refine AL.w rfl (OW.store (ty := 45) (n := 2) rfl wl rfl rfl kr rfl rfl (by decide) rfl (Nat.le_of_ble_eq_true rfl) (by intro r h; cases h)) ?_))); (conv => (arg 5; try tactic => exact nrm)); (conv => (arg 6; try tactic => exact nrm)))
      | (refine AL.bs rfl (fun hc => ?_) (fun hc => ?_) <;> (fail_if_success (with_reducible exact lit_no hc)) <;> (try replace hc := nc hc) <;> first | (exfalso; first | contradiction | (first | omega | (simp at *; done)); done) | (conv => (arg 5; try tactic => exact nrm)))
      | refine AL.nil ?_)
    | ((with_reducible refine AW.on ?_); first
      | refine AW.seq ?_
      | refine AW.skip ?_
      | refine AW.exit ?_
      | refine AW.ret ?_
      | refine AW.block ?_
      | refine AW.region ?_
      | (refine AW.conds rfl (fun hc => ?_) (fun hc => ?_) <;> (try replace hc := nc hc) <;> first | (exfalso; first | contradiction | (first | omega | (simp at *; done)); done) | skip))
    | ((with_reducible refine FinP.on ?_); (first | refine FinP.ret (.tmp wl .nil) ?_ rfl | refine FinP.end (.tmp wl .nil) ?_ rfl); (try simp only [pack, List.drop, List.take]); all_goals (rfl)))
theorem awake_q (m : Mem) : PCalls Try.prog 6 [] m (.bool true) := PCalls.any awake_0 rfl rfl m
end Go.Proofs.Ytmohcmghbfhdlaa
end
end
/- Chapter 6: MeshPoints (the law's), of at least one point. -/
section
set_option linter.unusedSimpArgs false
set_option linter.unusedVariables false
section
namespace Go.Proofs.Ytmohcmghbfhdlaa
open Go Go.RowKit Go.Ab Go.Me
set_option maxRecDepth 100000
set_option maxHeartbeats 4000000
attribute [local irreducible] OQ OW AL AW AD AF SW
theorem few_q {m : Mem} {b n c : Nat} {blk : Blk} (l : List Pn) (hb : m.at b = some blk) (hc : blk.cells = flatP l) (hn : l.length = n) (hl : (l.length : Int) ≤ 9223372036854775807) (ho : blk.obj = Ob.plain := by rfl) : PCalls Try.prog 7 [.slice (some ⟨b, 0, none⟩) n c] m (.bool (fwB n)) := by
  subst hn
  exact PCalls.viaS [b] (few_0 l c blk.esz hl) (ro1p _ rfl) ⟨⟨_, hb, by unfold Blk.shp Blk.shpR; rw [ho]; rfl, (fun h => nomatch h), .inl ⟨hc, flatP_scal _⟩⟩, trivial⟩ rfl rfl rfl rfl
theorem points_q {m : Mem} {b n c : Nat} {blk : Blk} (l : List Pn) (h0 : 0 < l.length) (hb : m.at b = some blk) (hc : blk.cells = flatP l) (hn : l.length = n) (hl : l.length ≤ 1000000) (ho : blk.obj = Ob.plain := by rfl) : ACalls Try.prog 9 [.slice (some ⟨b, 0, none⟩) n c] m (.slice (some ⟨m.length, 0, none⟩) n INF) (m ++ [some ⟨flatP l, true, 2⟩]) := by
  subst hn
  have h := ACalls.viaS (m := m) (args := [.slice (some ⟨b, 0, none⟩) l.length c]) (v := .slice (some ⟨m.length, 0, none⟩) l.length INF) [b] [] [some ⟨flatP l, true, 2⟩] (points_0 l c blk.esz hl h0) ⟨⟨_, hb, by unfold Blk.shp Blk.shpR; rw [ho]; rfl, (fun h => nomatch h), .inl ⟨hc, flatP_scal _⟩⟩, trivial⟩ (by simp) ⟨⟨_, rfl, rfl⟩, ⟨rfl, rfl, rfl, .inl ⟨rfl, flatP_scal _⟩⟩, trivial⟩ rfl rfl rfl rfl
  exact h
theorem MeshPoints_0 (l : List Pn) (c z : Nat) (h0 : 0 < l.length) (hll : (l.length : Int) ≤ 9223372036854775807) : PCalls Try.prog 3 [.slice (some ⟨0, 0, none⟩) l.length c] [some ⟨flatP l, false, z⟩] (.bool true) := by
  have hfew := fun (m : Mem) (blk : Blk) (h1 : m.at 0 = some blk) (h2 : blk.cells = flatP l) (h3 : blk.obj = Ob.plain) => few_q (c := c) l h1 h2 rfl hll h3
  cases hB : fwB l.length with
  | false =>
    rw [hB] at hfew
    clear hB
    refine PCalls.enter (t := [.slice (some ⟨0, 0, none⟩) l.length c, undef, undef, undef, undef, undef, undef, undef, undef, undef, undef, undef, undef, undef, undef, undef, undef, undef, undef, undef, undef, undef, undef, undef, undef, undef, undef, undef, undef, undef, undef, undef, undef, undef, undef, undef, undef, undef, undef, undef, undef, undef, undef, undef, undef, undef, undef, undef, undef, undef, undef, undef, undef, undef, undef, undef, undef, undef, undef, undef, undef, undef, undef, undef, undef, undef, undef, undef, undef]) Try.func3 rfl (ro1p _ rfl) rfl fun E => ?_
    repeat' (first
      | with_reducible refine Then.n ?_
      | with_reducible refine Then.r ?_
      | with_reducible refine Then.x ?_
      | with_reducible refine InB.n ?_
      | with_reducible refine InB.r ?_
      | with_reducible refine InB.hit ?_
      | with_reducible refine InB.miss (by decide) ?_
      | ((with_reducible refine AL.on ?_); first
        | (refine AL.gd rfl ?_; first | (refine AL.gskip rfl rfl ?_; (conv => (arg 5; try tactic => exact nrm))) | (refine AL.gs1 rfl rfl (fun hc => ?_) (fun hc => ?_) <;> (try replace hc := nc hc) <;> first | (exfalso; first | contradiction | (first | omega | (simp at *; done)); done) | (conv => (arg 5; try tactic => exact nrm))) | (refine AL.gs0 rfl rfl (fun hc => ?_) (fun hc => ?_) <;> (try replace hc := nc hc) <;> first | (exfalso; first | contradiction | (first | omega | (simp at *; done)); done) | (conv => (arg 5; try tactic => exact nrm))))
        | ((first | ((with_reducible refine AL.k_move ?_); first | (refine AL.q rfl (OQ.move wl) ?_)) | ((with_reducible refine AL.k_assign ?_); first | (refine AL.q rfl (OQ.assign wl) ?_)) | ((with_reducible refine AL.k_call ?_); first | refine AL.q rfl (OQ.lenS (xt := 29) (r := (none, 1, false)) rfl kr) ?_) | ((with_reducible refine AL.k_binOp ?_); first | refine AL.q rfl (OQ.neq rfl rfl) ?_ | refine AL.q rfl (OQ.eql rfl rfl) ?_) | ((with_reducible refine AL.k_extract ?_); first | refine AL.q rfl (OQ.extract rfl rfl) ?_) | ((with_reducible refine AL.k_pick ?_); first | (refine AL.q rfl (OQ.pickT rfl (by with_reducible rfl) wl) ?_) | (refine AL.q rfl (OQ.pickF rfl (by with_reducible rfl) wl) ?_)) | ((with_reducible refine AL.k_unOp ?_); first | refine AL.q rfl (OQ.not rfl) ?_)); (conv => (arg 5; try tactic => exact nrm)))
        | ((first | first | refine AL.pcall (g := 6) rfl kr rfl ((by exact awake_q _)) ?_ | refine AL.pcall (g := 7) rfl kr rfl ((by exact hfew _ _ rfl rfl rfl)) ?_ | refine AL.pcall (g := 9) rfl kr rfl (rfl) ?_ | refine AL.pcall (g := 8) rfl kr rfl (rfl) ?_ | refine AL.pcall (g := 10) rfl kr rfl (rfl) ?_ | refine AL.pcall (g := 11) rfl kr rfl (rfl) ?_ | refine AL.pcall (g := 12) rfl kr rfl (rfl) ?_ | refine AL.pcall (g := 13) rfl kr rfl (rfl) ?_); (conv => (arg 5; try tactic => exact nrm)))
        | (refine AL.bs rfl (fun hc => ?_) (fun hc => ?_) <;> (fail_if_success (with_reducible exact lit_no hc)) <;> (try replace hc := nc hc) <;> first | (exfalso; first | contradiction | (first | omega | (simp at *; done)); done) | (conv => (arg 5; try tactic => exact nrm)))
        | refine AL.nil ?_)
      | ((with_reducible refine AW.on ?_); first
        | refine AW.seq ?_
        | refine AW.skip ?_
        | refine AW.exit ?_
        | refine AW.ret ?_
        | refine AW.block ?_
        | (refine AW.region (id := 5) ?_; exfalso; first | omega | (simp at *; done); done)
        | refine AW.region ?_
        | (refine AW.conds rfl (fun hc => ?_) (fun hc => ?_) <;> (try replace hc := nc hc) <;> first | (exfalso; first | contradiction | (first | omega | (simp at *; done)); done) | skip))
      | ((with_reducible refine FinP.on ?_); (first | refine FinP.ret (.tmp wl .nil) ?_ rfl | refine FinP.end (.tmp wl .nil) ?_ rfl); (try simp only [pack, List.drop, List.take]); all_goals (rfl)))
  | true =>
    have hll : l.length ≤ 1000000 := by
      have := of_decide_eq_true hB
      omega
    rw [hB] at hfew
    clear hB
    have hpt := fun (m : Mem) (blk : Blk) (h1 : m.at 0 = some blk) (h2 : blk.cells = flatP l) (h3 : blk.obj = Ob.plain) => points_q (c := c) l h0 h1 h2 rfl hll h3
    have hcp := fun (m : Mem) (b : Nat) (blk : Blk) (h1 : m.at b = some blk) (h2 : blk.cells = flatP l) (hz : blk.esz = 0 ∨ blk.esz = 2) (h3 : blk.obj = Ob.plain) => CheckPoints_q (c := INF) l h1 h2 rfl hll hz h3
    have hrc := fun (m : Mem) (blk : Blk) (h1 : m.at 0 = some blk) (h2 : blk.cells = flatP l) (h3 : blk.obj = Ob.plain) => rCheckPoints_q (c := c) l h1 h2 rfl hll h3
    by_cases he : cpB l = 0
    · have hok := (cp_ok he).2.1
      cases hf : flK l (l.length - 2) with
      | false =>
        have hH := fun (m : Mem) (b : Nat) (blk : Blk) (h1 : m.at b = some blk) (h2 : blk.cells = flatP l) (hz : blk.esz = 0 ∨ blk.esz = 2) (h3 : blk.obj = Ob.plain) => Hull_y (c := INF) l he hf h1 h2 rfl hz h3
        have hr := fun (m : Mem) (blk : Blk) (h1 : m.at 0 = some blk) (h2 : blk.cells = flatP l) (h3 : blk.obj = Ob.plain) => rHull_y (c := c) l he hf h1 h2 rfl h3
        have hlen : (hl l).length ≠ 0 := by
          have := (hl_ring he hf).len
          omega
        have hle := hl_le he
        rw [he] at hcp hrc
        generalize cpA l = A0 at *
        refine PCalls.enter (t := [.slice (some ⟨0, 0, none⟩) l.length c, undef, undef, undef, undef, undef, undef, undef, undef, undef, undef, undef, undef, undef, undef, undef, undef, undef, undef, undef, undef, undef, undef, undef, undef, undef, undef, undef, undef, undef, undef, undef, undef, undef, undef, undef, undef, undef, undef, undef, undef, undef, undef, undef, undef, undef, undef, undef, undef, undef, undef, undef, undef, undef, undef, undef, undef, undef, undef, undef, undef, undef, undef, undef, undef, undef, undef, undef, undef]) Try.func3 rfl (ro1p _ rfl) rfl fun E => ?_
        repeat' (first
          | with_reducible refine Then.n ?_
          | with_reducible refine Then.r ?_
          | with_reducible refine Then.x ?_
          | with_reducible refine InB.n ?_
          | with_reducible refine InB.r ?_
          | with_reducible refine InB.hit ?_
          | with_reducible refine InB.miss (by decide) ?_
          | ((with_reducible refine AL.on ?_); first
            | (refine AL.gd rfl ?_; first | (refine AL.gskip rfl rfl ?_; (conv => (arg 5; try tactic => exact nrm))) | (refine AL.gs1 rfl rfl (fun hc => ?_) (fun hc => ?_) <;> (try replace hc := nc hc) <;> first | (exfalso; first | contradiction | (first | omega | (simp at hc; omega) | (simp at *; done)); done) | (conv => (arg 5; try tactic => exact nrm))) | (refine AL.gs0 rfl rfl (fun hc => ?_) (fun hc => ?_) <;> (try replace hc := nc hc) <;> first | (exfalso; first | contradiction | (first | omega | (simp at hc; omega) | (simp at *; done)); done) | (conv => (arg 5; try tactic => exact nrm))))
            | ((first | ((with_reducible refine AL.k_move ?_); first | (refine AL.q rfl (OQ.move wl) ?_)) | ((with_reducible refine AL.k_assign ?_); first | (refine AL.q rfl (OQ.assign wl) ?_)) | ((with_reducible refine AL.k_call ?_); first | refine AL.q rfl (OQ.lenS (xt := 29) (r := (none, 1, false)) rfl kr) ?_) | ((with_reducible refine AL.k_binOp ?_); first | refine AL.q rfl (OQ.neq rfl rfl) ?_ | refine AL.q rfl (OQ.eql rfl rfl) ?_) | ((with_reducible refine AL.k_extract ?_); first | refine AL.q rfl (OQ.extract rfl rfl) ?_) | ((with_reducible refine AL.k_pick ?_); first | (refine AL.q rfl (OQ.pickT rfl (by with_reducible rfl) wl) ?_) | (refine AL.q rfl (OQ.pickF rfl (by with_reducible rfl) wl) ?_)) | ((with_reducible refine AL.k_unOp ?_); first | refine AL.q rfl (OQ.not rfl) ?_)); (conv => (arg 5; try tactic => exact nrm)))
            | ((first | first | refine AL.pcall (g := 6) rfl kr rfl ((by exact awake_q _)) ?_ | refine AL.pcall (g := 7) rfl kr rfl ((by exact hfew _ _ rfl rfl rfl)) ?_ | refine AL.pcall (g := 8) rfl kr rfl ((by exact hcp _ _ _ rfl rfl (.inr rfl) rfl)) ?_ | refine AL.pcall (g := 11) rfl kr rfl ((by exact hrc _ _ rfl rfl rfl)) ?_ | (refine AL.pcall (g := 13) rfl kr rfl ((by exact Ints_t ((Go.Me.hl l).map Int.ofNat) (by rw [List.length_map]; omega) rfl (flatO_N _) (List.length_map _) rfl (flatO_N _) (List.length_map _))) ?_)); (conv => (arg 5; try tactic => exact nrm)))
            | ((first | first | refine AL.acall (g := 9) rfl kr rfl ((by exact hpt _ _ rfl rfl rfl)) ?_ | refine AL.acall (g := 10) rfl kr rfl ((by exact hH _ _ _ rfl rfl (.inr rfl) rfl)) ?_ | refine AL.acall (g := 12) rfl kr rfl ((by exact hr _ _ rfl rfl rfl)) ?_); (conv => (arg 5; try tactic => exact nrm)); (conv => (arg 6; try tactic => exact nrm)))
            | (refine AL.bs rfl (fun hc => ?_) (fun hc => ?_) <;> (fail_if_success (with_reducible exact lit_no hc)) <;> (try replace hc := nc hc) <;> first | (exfalso; first | contradiction | (first | omega | (simp at hc; omega) | (simp at *; done)); done) | (conv => (arg 5; try tactic => exact nrm)))
            | refine AL.nil ?_)
          | ((with_reducible refine AW.on ?_); first
            | refine AW.seq ?_
            | refine AW.skip ?_
            | refine AW.exit ?_
            | refine AW.ret ?_
            | refine AW.block ?_
            | refine AW.region ?_
            | (refine AW.conds rfl (fun hc => ?_) (fun hc => ?_) <;> (try replace hc := nc hc) <;> first | (exfalso; first | contradiction | (first | omega | (simp at hc; omega) | (simp at *; done)); done) | skip))
          | ((with_reducible refine FinP.on ?_); (first | refine FinP.ret (.tmp wl .nil) ?_ rfl | refine FinP.end (.tmp wl .nil) ?_ rfl); (try simp only [pack, List.drop, List.take]); all_goals (rfl)))
      | true =>
        have hH := fun (m : Mem) (b : Nat) (blk : Blk) (h1 : m.at b = some blk) (h2 : blk.cells = flatP l) (hz : blk.esz = 0 ∨ blk.esz = 2) (h3 : blk.obj = Ob.plain) => Hull_n (c := INF) l he hf h1 h2 rfl hz h3
        have hr := fun (m : Mem) (blk : Blk) (h1 : m.at 0 = some blk) (h2 : blk.cells = flatP l) (h3 : blk.obj = Ob.plain) => rHull_fq (c := c) l hok hf h1 h2 rfl hll h3
        rw [he] at hcp hrc
        generalize cpA l = A0 at *
        refine PCalls.enter (t := [.slice (some ⟨0, 0, none⟩) l.length c, undef, undef, undef, undef, undef, undef, undef, undef, undef, undef, undef, undef, undef, undef, undef, undef, undef, undef, undef, undef, undef, undef, undef, undef, undef, undef, undef, undef, undef, undef, undef, undef, undef, undef, undef, undef, undef, undef, undef, undef, undef, undef, undef, undef, undef, undef, undef, undef, undef, undef, undef, undef, undef, undef, undef, undef, undef, undef, undef, undef, undef, undef, undef, undef, undef, undef, undef, undef]) Try.func3 rfl (ro1p _ rfl) rfl fun E => ?_
        repeat' (first
          | with_reducible refine Then.n ?_
          | with_reducible refine Then.r ?_
          | with_reducible refine Then.x ?_
          | with_reducible refine InB.n ?_
          | with_reducible refine InB.r ?_
          | with_reducible refine InB.hit ?_
          | with_reducible refine InB.miss (by decide) ?_
          | ((with_reducible refine AL.on ?_); first
            | (refine AL.gd rfl ?_; first | (refine AL.gskip rfl rfl ?_; (conv => (arg 5; try tactic => exact nrm))) | (refine AL.gs1 rfl rfl (fun hc => ?_) (fun hc => ?_) <;> (try replace hc := nc hc) <;> first | (exfalso; first | contradiction | (first | omega | (simp at *; done)); done) | (conv => (arg 5; try tactic => exact nrm))) | (refine AL.gs0 rfl rfl (fun hc => ?_) (fun hc => ?_) <;> (try replace hc := nc hc) <;> first | (exfalso; first | contradiction | (first | omega | (simp at *; done)); done) | (conv => (arg 5; try tactic => exact nrm))))
            | ((first | ((with_reducible refine AL.k_move ?_); first | (refine AL.q rfl (OQ.move wl) ?_)) | ((with_reducible refine AL.k_assign ?_); first | (refine AL.q rfl (OQ.assign wl) ?_)) | ((with_reducible refine AL.k_call ?_); first | refine AL.q rfl (OQ.lenS (xt := 29) (r := (none, 1, false)) rfl kr) ?_) | ((with_reducible refine AL.k_binOp ?_); first | refine AL.q rfl (OQ.neq rfl rfl) ?_ | refine AL.q rfl (OQ.eql rfl rfl) ?_) | ((with_reducible refine AL.k_extract ?_); first | refine AL.q rfl (OQ.extract rfl rfl) ?_) | ((with_reducible refine AL.k_pick ?_); first | (refine AL.q rfl (OQ.pickT rfl (by with_reducible rfl) wl) ?_) | (refine AL.q rfl (OQ.pickF rfl (by with_reducible rfl) wl) ?_)) | ((with_reducible refine AL.k_unOp ?_); first | refine AL.q rfl (OQ.not rfl) ?_)); (conv => (arg 5; try tactic => exact nrm)))
            | ((first | first | refine AL.pcall (g := 6) rfl kr rfl ((by exact awake_q _)) ?_ | refine AL.pcall (g := 7) rfl kr rfl ((by exact hfew _ _ rfl rfl rfl)) ?_ | refine AL.pcall (g := 8) rfl kr rfl ((by exact hcp _ _ _ rfl rfl (.inr rfl) rfl)) ?_ | refine AL.pcall (g := 10) rfl kr rfl ((by exact hH _ _ _ rfl rfl (.inr rfl) rfl)) ?_ | refine AL.pcall (g := 11) rfl kr rfl ((by exact hrc _ _ rfl rfl rfl)) ?_ | refine AL.pcall (g := 12) rfl kr rfl ((by exact hr _ _ rfl rfl rfl)) ?_ | refine AL.pcall (g := 13) rfl kr rfl (rfl) ?_); (conv => (arg 5; try tactic => exact nrm)))
            | ((first | first | refine AL.acall (g := 9) rfl kr rfl ((by exact hpt _ _ rfl rfl rfl)) ?_); (conv => (arg 5; try tactic => exact nrm)); (conv => (arg 6; try tactic => exact nrm)))
            | (refine AL.bs rfl (fun hc => ?_) (fun hc => ?_) <;> (fail_if_success (with_reducible exact lit_no hc)) <;> (try replace hc := nc hc) <;> first | (exfalso; first | contradiction | (first | omega | (simp at *; done)); done) | (conv => (arg 5; try tactic => exact nrm)))
            | refine AL.nil ?_)
          | ((with_reducible refine AW.on ?_); first
            | refine AW.seq ?_
            | refine AW.skip ?_
            | refine AW.exit ?_
            | refine AW.ret ?_
            | refine AW.block ?_
            | (refine AW.region (id := 15) ?_; exfalso; first | omega | (simp at *; done); done)
            | refine AW.region ?_
            | (refine AW.conds rfl (fun hc => ?_) (fun hc => ?_) <;> (try replace hc := nc hc) <;> first | (exfalso; first | contradiction | (first | omega | (simp at *; done)); done) | skip))
          | ((with_reducible refine FinP.on ?_); (first | refine FinP.ret (.tmp wl .nil) ?_ rfl | refine FinP.end (.tmp wl .nil) ?_ rfl); (try simp only [pack, List.drop, List.take]); all_goals (rfl)))
    · have hH := fun (m : Mem) (b : Nat) (blk : Blk) (h1 : m.at b = some blk) (h2 : blk.cells = flatP l) (hz : blk.esz = 0 ∨ blk.esz = 2) (h3 : blk.obj = Ob.plain) => Hull_e (c := INF) l he h1 h2 rfl hll hz h3
      generalize cpA l = A0 at *
      generalize cpB l = E0 at *
      refine PCalls.enter (t := [.slice (some ⟨0, 0, none⟩) l.length c, undef, undef, undef, undef, undef, undef, undef, undef, undef, undef, undef, undef, undef, undef, undef, undef, undef, undef, undef, undef, undef, undef, undef, undef, undef, undef, undef, undef, undef, undef, undef, undef, undef, undef, undef, undef, undef, undef, undef, undef, undef, undef, undef, undef, undef, undef, undef, undef, undef, undef, undef, undef, undef, undef, undef, undef, undef, undef, undef, undef, undef, undef, undef, undef, undef, undef, undef, undef]) Try.func3 rfl (ro1p _ rfl) rfl fun E => ?_
      repeat' (first
        | with_reducible refine Then.n ?_
        | with_reducible refine Then.r ?_
        | with_reducible refine Then.x ?_
        | with_reducible refine InB.n ?_
        | with_reducible refine InB.r ?_
        | with_reducible refine InB.hit ?_
        | with_reducible refine InB.miss (by decide) ?_
        | ((with_reducible refine AL.on ?_); first
          | (refine AL.gd rfl ?_; first | (refine AL.gskip rfl rfl ?_; (conv => (arg 5; try tactic => exact nrm))) | (refine AL.gs1 rfl rfl (fun hc => ?_) (fun hc => ?_) <;> (try replace hc := nc hc) <;> first | (exfalso; first | contradiction | (first | omega | (simp at *; done)); done) | (conv => (arg 5; try tactic => exact nrm))) | (refine AL.gs0 rfl rfl (fun hc => ?_) (fun hc => ?_) <;> (try replace hc := nc hc) <;> first | (exfalso; first | contradiction | (first | omega | (simp at *; done)); done) | (conv => (arg 5; try tactic => exact nrm))))
          | ((first | ((with_reducible refine AL.k_move ?_); first | (refine AL.q rfl (OQ.move wl) ?_)) | ((with_reducible refine AL.k_assign ?_); first | (refine AL.q rfl (OQ.assign wl) ?_)) | ((with_reducible refine AL.k_call ?_); first | refine AL.q rfl (OQ.lenS (xt := 29) (r := (none, 1, false)) rfl kr) ?_) | ((with_reducible refine AL.k_binOp ?_); first | refine AL.q rfl (OQ.neq rfl rfl) ?_ | refine AL.q rfl (OQ.eql rfl rfl) ?_) | ((with_reducible refine AL.k_extract ?_); first | refine AL.q rfl (OQ.extract rfl rfl) ?_) | ((with_reducible refine AL.k_pick ?_); first | (refine AL.q rfl (OQ.pickT rfl (by with_reducible rfl) wl) ?_) | (refine AL.q rfl (OQ.pickF rfl (by with_reducible rfl) wl) ?_)) | ((with_reducible refine AL.k_unOp ?_); first | refine AL.q rfl (OQ.not rfl) ?_)); (conv => (arg 5; try tactic => exact nrm)))
          | ((first | first | refine AL.pcall (g := 6) rfl kr rfl ((by exact awake_q _)) ?_ | refine AL.pcall (g := 7) rfl kr rfl ((by exact hfew _ _ rfl rfl rfl)) ?_ | refine AL.pcall (g := 8) rfl kr rfl ((by exact hcp _ _ _ rfl rfl (.inr rfl) rfl)) ?_ | refine AL.pcall (g := 10) rfl kr rfl ((by exact hH _ _ _ rfl rfl (.inr rfl) rfl)) ?_ | refine AL.pcall (g := 11) rfl kr rfl ((by exact hrc _ _ rfl rfl rfl)) ?_ | refine AL.pcall (g := 12) rfl kr rfl (rfl) ?_ | refine AL.pcall (g := 13) rfl kr rfl (rfl) ?_); (conv => (arg 5; try tactic => exact nrm)))
          | ((first | first | refine AL.acall (g := 9) rfl kr rfl ((by exact hpt _ _ rfl rfl rfl)) ?_); (conv => (arg 5; try tactic => exact nrm)); (conv => (arg 6; try tactic => exact nrm)))
          | (refine AL.bs rfl (fun hc => ?_) (fun hc => ?_) <;> (fail_if_success (with_reducible exact lit_no hc)) <;> (try replace hc := nc hc) <;> first | (exfalso; first | contradiction | (first | omega | (simp at *; done)); done) | (conv => (arg 5; try tactic => exact nrm)))
          | refine AL.nil ?_)
        | ((with_reducible refine AW.on ?_); first
          | refine AW.seq ?_
          | refine AW.skip ?_
          | refine AW.exit ?_
          | refine AW.ret ?_
          | refine AW.block ?_
          | (refine AW.region (id := 12) ?_; exfalso; first | omega | (simp at *; done); done)
          | refine AW.region ?_
          | (refine AW.conds rfl (fun hc => ?_) (fun hc => ?_) <;> (try replace hc := nc hc) <;> first | (exfalso; first | contradiction | (first | omega | (simp at *; done)); done) | skip))
        | ((with_reducible refine FinP.on ?_); (first | refine FinP.ret (.tmp wl .nil) ?_ rfl | refine FinP.end (.tmp wl .nil) ?_ rfl); (try simp only [pack, List.drop, List.take]); all_goals (rfl)))
end Go.Proofs.Ytmohcmghbfhdlaa
end
end
/- Chapter 6: MeshPoints of no points (the law's). -/
section
set_option linter.unusedSimpArgs false
set_option linter.unusedVariables false
section
namespace Go.Proofs.Ytmohcmghbfhdlaa
open Go Go.RowKit Go.Ab Go.Me
set_option maxRecDepth 100000
set_option maxHeartbeats 4000000
attribute [local irreducible] OQ OW AL AW AD AF SW
theorem rCheckPoints_n (m : Mem) : PCalls Try.prog 11 [.slice none 0 0] m (.tuple #[.int .i64 0, .int .i64 0]) := by
  refine PCalls.any ?_ rfl rfl m
  refine PCalls.enter (t := [.slice none 0 0, undef, undef, undef, undef, undef, undef, undef, undef, undef, undef, undef, undef, undef, undef, undef, undef, undef, undef, undef, undef, undef]) Try.func11 rfl (ro_nil) rfl fun E => ?_
  repeat' (first
    | with_reducible refine Then.n ?_
    | with_reducible refine Then.r ?_
    | with_reducible refine Then.x ?_
    | with_reducible refine InB.n ?_
    | with_reducible refine InB.r ?_
    | with_reducible refine InB.hit ?_
    | with_reducible refine InB.miss (by decide) ?_
    | ((with_reducible refine AL.on ?_); first
      | ((first | ((with_reducible refine AL.k_assign ?_); first | (refine AL.q rfl (OQ.assign wl) ?_)) | ((with_reducible refine AL.k_move ?_); first | (refine AL.q rfl (OQ.move wl) ?_)) | ((with_reducible refine AL.k_binOp ?_); first | refine AL.q rfl (OQ.gtr rfl rfl) ?_ | refine AL.q rfl (OQ.lss rfl rfl) ?_ | refine AL.q rfl (OQ.neq rfl rfl) ?_ | refine AL.q rfl (OQ.addi rfl rfl (by omega)) ?_ | refine AL.q rfl (OQ.add rfl rfl) ?_) | ((with_reducible refine AL.k_call ?_); first | refine AL.q rfl (OQ.lenS (xt := 22) (r := (none, 2, true)) rfl kr) ?_)); (conv => (arg 5; try tactic => exact nrm)))
      | ((first | first | refine AL.pcall (g := 32) rfl kr rfl (rfl) ?_); (conv => (arg 5; try tactic => exact nrm)))
      | refine AL.nil ?_)
    | ((with_reducible refine AW.on ?_); first
      | refine AW.seq ?_
      | refine AW.skip ?_
      | refine AW.exit ?_
      | refine AW.ret ?_
      | (refine AW.block (id := 0) ?_; refine AW.unroll 1 ?_)
      | refine AW.block ?_
      | refine AW.region ?_
      | (refine AW.conds rfl (fun hc => ?_) (fun hc => ?_) <;> (try replace hc := nc hc) <;> first | (exfalso; first | contradiction | (first | omega | (simp at hc; done)); done) | skip))
    | with_reducible refine AR.s ?_
    | ((with_reducible refine AR.out ?_); first | omega | (simp at hc; done); done)
    | ((with_reducible refine FinP.on ?_); (first | refine FinP.ret (.tmp wl (.tmp wl .nil)) ?_ rfl | refine FinP.end (.tmp wl (.tmp wl .nil)) ?_ rfl); (try simp only [pack, List.drop, List.take]); all_goals (rfl)))
theorem rHull_n (m : Mem) : PCalls Try.prog 12 [.slice none 0 0] m (.slice none 0 0) := by
  refine PCalls.any ?_ rfl rfl m
  refine PCalls.enter (t := [.slice none 0 0, undef, undef, undef, undef, undef, undef, undef, undef, undef, undef, undef, undef, undef, undef, undef, undef, undef, undef, undef, undef, undef, undef, undef, undef, undef, undef, undef, undef, undef, undef, undef, undef, undef, undef, undef, undef, undef, undef, undef, undef, undef, undef, undef, undef, undef, undef, undef, undef, undef, undef, undef, undef, undef, undef, undef, undef, undef, undef, undef, undef, undef, undef, undef, undef, undef, undef, undef, undef, undef, undef, undef, undef, undef, undef, undef, undef, undef, undef, undef, undef, undef, undef, undef, undef, undef, undef, undef, undef, undef, undef, undef, undef, undef, undef, undef, undef, undef, undef, undef, undef, undef, undef, undef, undef, undef, undef, undef, undef, undef, undef, undef, undef, undef, undef, undef, undef, undef, undef, undef, undef, undef, undef, undef, undef, undef, undef, undef, undef, undef, undef, undef, undef, undef, undef, undef, undef, undef, undef]) Try.func12 rfl (ro_nil) rfl fun E => ?_
  repeat' (first
    | with_reducible refine Then.n ?_
    | with_reducible refine Then.r ?_
    | with_reducible refine Then.x ?_
    | with_reducible refine InB.n ?_
    | with_reducible refine InB.r ?_
    | with_reducible refine InB.hit ?_
    | with_reducible refine InB.miss (by decide) ?_
    | ((with_reducible refine AL.on ?_); first
      | (refine AL.gd rfl ?_; first | (refine AL.gskip rfl rfl ?_; (conv => (arg 5; try tactic => exact nrm))) | (refine AL.gs1 rfl rfl (fun hc => ?_) (fun hc => ?_) <;> (try replace hc := nc hc) <;> first | (exfalso; first | contradiction | (first | omega | (simp at hc; done)); done) | (conv => (arg 5; try tactic => exact nrm))) | (refine AL.gs0 rfl rfl (fun hc => ?_) (fun hc => ?_) <;> (try replace hc := nc hc) <;> first | (exfalso; first | contradiction | (first | omega | (simp at hc; done)); done) | (conv => (arg 5; try tactic => exact nrm))))
      | ((first | ((with_reducible refine AL.k_move ?_); first | (refine AL.q rfl (OQ.move wl) ?_)) | ((with_reducible refine AL.k_assign ?_); first | (refine AL.q rfl (OQ.assign wl) ?_)) | ((with_reducible refine AL.k_binOp ?_); first | refine AL.q rfl (OQ.lss rfl rfl) ?_ | refine AL.q rfl (OQ.eql rfl rfl) ?_ | refine AL.q rfl (OQ.addi rfl rfl (by omega)) ?_ | refine AL.q rfl (OQ.add rfl rfl) ?_ | refine AL.q rfl (OQ.subi rfl rfl (by omega)) ?_ | refine AL.q rfl (OQ.sub rfl rfl) ?_ | refine AL.q rfl (OQ.gtr rfl rfl) ?_) | ((with_reducible refine AL.k_indexAddr ?_); first | refine AL.q rfl (OQ.idxAddr (ty := 29) (z := 1) (g := false) rfl rfl kr (by omega) (by omega)) ?_) | ((with_reducible refine AL.k_load ?_); first | (refine AL.q rfl (OQ.load1 (ty := 3) rfl kr wl) ?_)) | ((with_reducible refine AL.k_call ?_); first | refine AL.q rfl (OQ.lenS (xt := 22) (r := (none, 2, true)) rfl kr) ?_ | refine AL.q rfl (OQ.lenS (xt := 29) (r := (none, 1, false)) rfl kr) ?_) | ((with_reducible refine AL.k_pick ?_); first | (refine AL.q rfl (OQ.pickT rfl (by with_reducible rfl) wl) ?_) | (refine AL.q rfl (OQ.pickF rfl (by with_reducible rfl) wl) ?_))); (conv => (arg 5; try tactic => exact nrm)))
      | ((first | ((with_reducible refine AL.k_call ?_); first | refine AL.w rfl rfl ?_) | ((with_reducible refine AL.k_buildSlice ?_); first | refine AL.w rfl (OW.buildSl (ty := 29) (zs := [.int .i64 0]) (n := 1) (g := false) kr kr rfl rfl rfl (by decide) (by decide) rfl rfl) ?_)); (conv => (arg 5; try tactic => exact nrm)); (conv => (arg 6; try tactic => exact nrm)))
      | (refine AL.bs rfl (fun hc => ?_) (fun hc => ?_) <;> (fail_if_success (with_reducible exact lit_no hc)) <;> (try replace hc := nc hc) <;> first | (exfalso; first | contradiction | (first | omega | (simp at hc; done)); done) | (conv => (arg 5; try tactic => exact nrm)))
      | refine AL.nil ?_)
    | ((with_reducible refine AW.on ?_); first
      | refine AW.seq ?_
      | refine AW.skip ?_
      | refine AW.exit ?_
      | refine AW.ret ?_
      | (refine AW.block (id := 0) ?_; refine AW.unroll 1 ?_)
      | refine AW.block ?_
      | (refine AW.drawF (id := 5) 12 #[0, 1, 3, 7, 15, 3, 35, 99, 3, 3, 771, 1795, 4095, 8191, 16383, 32767] kr kr ?_; (conv => (arg 8; simp only [List.take_succ_cons, List.take_zero])))
      | (refine AW.drawF (id := 12) 34 #[0, 0, 3, 7, 15, 0, 0, 96, 224, 480, 1023, 2047, 4095, 4095, 16383, 32767, 65535, 4095, 4095, 397311, 921599, 1970175, 4194303, 8388607, 16777215, 16777215, 67108863, 134217727, 268435455, 16777215, 16777215, 1627389951, 3774873599, 8069840895, 17179869183, 34359738367, 68719476735] kr kr ?_; (conv => (arg 8; simp only [List.take_succ_cons, List.take_zero])))
      | (refine AW.drawF (id := 20) 25 #[0, 0, 3, 7, 15, 15, 15, 127, 255, 511, 1023, 2047, 4095, 8191, 8191, 32767, 65535, 8191, 8191, 401407, 925695, 8191, 8191, 6299647, 14688255, 33554431, 67108863, 134217727] kr kr ?_; (conv => (arg 8; simp only [List.take_succ_cons, List.take_zero])))
      | (refine AW.region (id := 8) ?_; exfalso; first | omega | (simp at hc; done); done)
      | refine AW.region ?_
      | (refine AW.conds rfl (fun hc => ?_) (fun hc => ?_) <;> (try replace hc := nc hc) <;> first | (exfalso; first | contradiction | (first | omega | (simp at hc; done)); done) | skip))
    | ((with_reducible refine AF.on ?_); first
      | (refine AF.q 0 (SW.skip rfl rfl) ?_; (conv => (arg 9; try tactic => exact nrmF)); (conv => (arg 11; try simp only [List.nil_append, List.cons_append])))
      | ((first | refine AF.q 0 (SW.no1 rfl rfl (by with_reducible rfl)) ?_ | refine AF.q 0 (SW.no0 rfl rfl (by with_reducible rfl)) ?_); (conv => (arg 9; try tactic => exact nrmF)); (conv => (arg 11; try simp only [List.nil_append, List.cons_append])))
      | ((first | ((with_reducible refine AF.k_move ?_); first | (refine AF.q 0 (SW.q (OQ.move wl) rfl) ?_) | (refine AF.q 0 (SW.yes (SW.q (OQ.move wl) rfl) rfl rfl (by with_reducible rfl)) ?_)) | ((with_reducible refine AF.k_binOp ?_); first | refine AF.q 0 (SW.q (OQ.lss rfl rfl) rfl) ?_ | refine AF.q 0 (SW.yes (SW.q (OQ.eql rfl rfl) rfl) rfl rfl (by with_reducible rfl)) ?_ | refine AF.q 0 (SW.q (OQ.neq rfl rfl) rfl) ?_ | refine AF.q 0 (SW.yes (SW.q (OQ.lss rfl rfl) rfl) rfl rfl (by with_reducible rfl)) ?_) | ((with_reducible refine AF.k_indexAddr ?_); first | refine AF.q 0 (SW.yes (SW.q (OQ.idxAddr (ty := 22) (z := 2) (g := true) rfl rfl kr (by omega) (by omega)) rfl) rfl rfl (by with_reducible rfl)) ?_ | refine AF.q 0 (SW.q (OQ.idxAddr (ty := 22) (z := 2) (g := true) rfl rfl kr (by omega) (by omega)) rfl) ?_) | ((with_reducible refine AF.k_load ?_); first | refine AF.ql rfl (SW.yes (SW.q (OQ.loadN (ty := 47) (n := 2) rfl kr kr rfl) rfl) rfl rfl (by with_reducible rfl)) ?_ | (refine AF.ql rfl (SW.q (OQ.load1 (ty := 3) rfl kr wl) rfl) ?_) | (refine AF.ql rfl (SW.yes (SW.q (OQ.load1 (ty := 3) rfl kr wl) rfl) rfl rfl (by with_reducible rfl)) ?_)) | ((with_reducible refine AF.k_pick ?_); first | (refine AF.q 0 (SW.q (OQ.pickT rfl (by with_reducible rfl) wl) rfl) ?_) | (refine AF.q 0 (SW.q (OQ.pickF rfl (by with_reducible rfl) wl) rfl) ?_)) | ((with_reducible refine AF.k_fieldAddr ?_); first | refine AF.q 0 (SW.q (OQ.fieldA (ty := 47) (i := 0) (n := 1) (off := 0) (g := false) rfl kr (by decide)) rfl) ?_ | refine AF.q 0 (SW.yes (SW.q (OQ.fieldA (ty := 47) (i := 0) (n := 1) (off := 0) (g := false) rfl kr (by decide)) rfl) rfl rfl (by with_reducible rfl)) ?_ | refine AF.q 0 (SW.yes (SW.q (OQ.fieldA (ty := 47) (i := 1) (n := 1) (off := 1) (g := false) rfl kr (by decide)) rfl) rfl rfl (by with_reducible rfl)) ?_)); (conv => (arg 9; try tactic => exact nrmF)); (conv => (arg 11; try simp only [List.nil_append, List.cons_append])))
      | (refine AF.bs rfl (fun hc => ?_) (fun hc => ?_) <;> (fail_if_success (with_reducible exact lit_no hc)) <;> (try replace hc := nc hc) <;> first | (exfalso; first | contradiction | (first | omega | (simp at hc; done)); done) | skip)
      | (refine AF.gs1 rfl rfl (fun hc => ?_) (fun hc => ?_) <;> (fail_if_success (with_reducible exact lit_no hc)) <;> (try replace hc := nc hc) <;> first | (exfalso; first | contradiction | (first | omega | (simp at hc; done)); done) | skip)
      | (refine AF.gs0 rfl rfl (fun hc => ?_) (fun hc => ?_) <;> (fail_if_success (with_reducible exact lit_no hc)) <;> (try replace hc := nc hc) <;> first | (exfalso; first | contradiction | (first | omega | (simp at hc; done)); done) | skip)
      | (refine AF.nil ?_ kr; (conv => (arg 4; simp only [List.drop_succ_cons, List.drop_zero, List.drop_nil]))))
    | with_reducible refine AR.s ?_
    | ((with_reducible refine AR.out ?_); first | omega | (simp at hc; done); done)
    | ((with_reducible refine FinP.on ?_); (first | refine FinP.ret (.tmp wl .nil) ?_ rfl | refine FinP.end (.tmp wl .nil) ?_ rfl); (try simp only [pack, List.drop, List.take]); all_goals (rfl)))
theorem few_n (m : Mem) : PCalls Try.prog 7 [.slice none 0 0] m (.bool true) := by
  refine PCalls.any ?_ rfl rfl m
  refine PCalls.enter (t := [.slice none 0 0, undef, undef, undef, undef, undef, undef, undef, undef, undef, undef, undef, undef, undef, undef, undef]) Try.func7 rfl (ro_nil) rfl fun E => ?_
  repeat' (first
    | with_reducible refine Then.n ?_
    | with_reducible refine Then.r ?_
    | with_reducible refine Then.x ?_
    | with_reducible refine InB.n ?_
    | with_reducible refine InB.r ?_
    | with_reducible refine InB.hit ?_
    | with_reducible refine InB.miss (by decide) ?_
    | ((with_reducible refine AL.on ?_); first
      | (refine AL.gd rfl ?_; first | (refine AL.gskip rfl rfl ?_; (conv => (arg 5; try tactic => exact nrm))) | (refine AL.gs1 rfl rfl (fun hc => ?_) (fun hc => ?_) <;> (try replace hc := nc hc) <;> first | (exfalso; first | contradiction | (first | omega | (simp at hc; done)); done) | (conv => (arg 5; try tactic => exact nrm))) | (refine AL.gs0 rfl rfl (fun hc => ?_) (fun hc => ?_) <;> (try replace hc := nc hc) <;> first | (exfalso; first | contradiction | (first | omega | (simp at hc; done)); done) | (conv => (arg 5; try tactic => exact nrm))))
      | ((first | ((with_reducible refine AL.k_move ?_); first | (refine AL.q rfl (OQ.move wl) ?_)) | ((with_reducible refine AL.k_call ?_); first | refine AL.q rfl (OQ.lenS (xt := 22) (r := (none, 2, true)) rfl kr) ?_) | ((with_reducible refine AL.k_binOp ?_); first | refine AL.q rfl (OQ.leq rfl rfl) ?_ | refine AL.q rfl (OQ.gtr rfl rfl) ?_) | ((with_reducible refine AL.k_assign ?_); first | (refine AL.q rfl (OQ.assign wl) ?_)) | ((with_reducible refine AL.k_pick ?_); first | (refine AL.q rfl (OQ.pickT rfl (by with_reducible rfl) wl) ?_) | (refine AL.q rfl (OQ.pickF rfl (by with_reducible rfl) wl) ?_))); (conv => (arg 5; try tactic => exact nrm)))
      | (refine AL.bs rfl (fun hc => ?_) (fun hc => ?_) <;> (fail_if_success (with_reducible exact lit_no hc)) <;> (try replace hc := nc hc) <;> first | (exfalso; first | contradiction | (first | omega | (simp at hc; done)); done) | (conv => (arg 5; try tactic => exact nrm)))
      | refine AL.nil ?_)
    | ((with_reducible refine AW.on ?_); first
      | refine AW.seq ?_
      | refine AW.skip ?_
      | refine AW.exit ?_
      | refine AW.ret ?_
      | refine AW.block ?_
      | refine AW.region ?_
      | (refine AW.conds rfl (fun hc => ?_) (fun hc => ?_) <;> (try replace hc := nc hc) <;> first | (exfalso; first | contradiction | (first | omega | (simp at hc; done)); done) | skip))
    | ((with_reducible refine FinP.on ?_); (first | refine FinP.ret (.tmp wl .nil) ?_ rfl | refine FinP.end (.tmp wl .nil) ?_ rfl); (try simp only [pack, List.drop, List.take]); all_goals (rfl)))
theorem points_n (m : Mem) : ACalls Try.prog 9 [.slice none 0 0] m (.slice (some ⟨m.length, 0, none⟩) 0 0) (m ++ [some ⟨flatP [], true, 2⟩]) := by
  have h := ACalls.viaS (m := m) (args := [.slice none 0 0]) (v := .slice (some ⟨m.length, 0, none⟩) 0 0) [] [] [some ⟨flatP [], true, 2⟩] points_n0 trivial (by simp) ⟨⟨rfl, rfl, rfl, .inl ⟨rfl, rfl⟩⟩, trivial⟩ rfl rfl rfl rfl
  exact h
theorem MeshPoints_n : PCalls Try.prog 3 [.slice none 0 0] [] (.bool true) := by
  have hcp := fun (m : Mem) (b : Nat) (blk : Blk) (h1 : m.at b = some blk) (h2 : blk.cells = flatP []) (hz : blk.esz = 0 ∨ blk.esz = 2) (h3 : blk.obj = Ob.plain) => CheckPoints_q (c := 0) [] h1 h2 rfl (by decide) hz h3
  have hH := fun (m : Mem) (b : Nat) (blk : Blk) (h1 : m.at b = some blk) (h2 : blk.cells = flatP []) (hz : blk.esz = 0 ∨ blk.esz = 2) (h3 : blk.obj = Ob.plain) => Hull_n (c := 0) [] (by kernel_rfl) (by kernel_rfl) h1 h2 rfl hz h3
  rw [show cpA [] = 0 by kernel_rfl, show cpB [] = 0 by kernel_rfl] at hcp
  refine PCalls.enter (t := [.slice none 0 0, undef, undef, undef, undef, undef, undef, undef, undef, undef, undef, undef, undef, undef, undef, undef, undef, undef, undef, undef, undef, undef, undef, undef, undef, undef, undef, undef, undef, undef, undef, undef, undef, undef, undef, undef, undef, undef, undef, undef, undef, undef, undef, undef, undef, undef, undef, undef, undef, undef, undef, undef, undef, undef, undef, undef, undef, undef, undef, undef, undef, undef, undef, undef, undef, undef, undef, undef, undef]) Try.func3 rfl (ro_nil) rfl fun E => ?_
  repeat' (first
    | with_reducible refine Then.n ?_
    | with_reducible refine Then.r ?_
    | with_reducible refine Then.x ?_
    | with_reducible refine InB.n ?_
    | with_reducible refine InB.r ?_
    | with_reducible refine InB.hit ?_
    | with_reducible refine InB.miss (by decide) ?_
    | ((with_reducible refine AL.on ?_); first
      | (refine AL.gd rfl ?_; first | (refine AL.gskip rfl rfl ?_; (conv => (arg 5; try tactic => exact nrm))) | (refine AL.gs1 rfl rfl (fun hc => ?_) (fun hc => ?_) <;> (try replace hc := nc hc) <;> first | (exfalso; first | contradiction | (first | omega | (simp at *; done)); done) | (conv => (arg 5; try tactic => exact nrm))) | (refine AL.gs0 rfl rfl (fun hc => ?_) (fun hc => ?_) <;> (try replace hc := nc hc) <;> first | (exfalso; first | contradiction | (first | omega | (simp at *; done)); done) | (conv => (arg 5; try tactic => exact nrm))))
      | ((first | ((with_reducible refine AL.k_move ?_); first | (refine AL.q rfl (OQ.move wl) ?_)) | ((with_reducible refine AL.k_assign ?_); first | (refine AL.q rfl (OQ.assign wl) ?_)) | ((with_reducible refine AL.k_call ?_); first | refine AL.q rfl (OQ.lenS (xt := 29) (r := (none, 1, false)) rfl kr) ?_) | ((with_reducible refine AL.k_binOp ?_); first | refine AL.q rfl (OQ.neq rfl rfl) ?_ | refine AL.q rfl (OQ.eql rfl rfl) ?_) | ((with_reducible refine AL.k_extract ?_); first | refine AL.q rfl (OQ.extract rfl rfl) ?_) | ((with_reducible refine AL.k_pick ?_); first | (refine AL.q rfl (OQ.pickT rfl (by with_reducible rfl) wl) ?_) | (refine AL.q rfl (OQ.pickF rfl (by with_reducible rfl) wl) ?_)) | ((with_reducible refine AL.k_unOp ?_); first | refine AL.q rfl (OQ.not rfl) ?_)); (conv => (arg 5; try tactic => exact nrm)))
      | ((first | first | refine AL.pcall (g := 6) rfl kr rfl ((by exact awake_q _)) ?_ | refine AL.pcall (g := 7) rfl kr rfl ((by exact few_n _)) ?_ | refine AL.pcall (g := 8) rfl kr rfl ((by exact hcp _ _ _ rfl rfl (.inr rfl) rfl)) ?_ | refine AL.pcall (g := 10) rfl kr rfl ((by exact hH _ _ _ rfl rfl (.inr rfl) rfl)) ?_ | refine AL.pcall (g := 11) rfl kr rfl ((by exact rCheckPoints_n _)) ?_ | refine AL.pcall (g := 12) rfl kr rfl ((by exact rHull_n _)) ?_ | refine AL.pcall (g := 13) rfl kr rfl (rfl) ?_); (conv => (arg 5; try tactic => exact nrm)))
      | ((first | first | refine AL.acall (g := 9) rfl kr rfl ((by exact points_n _)) ?_); (conv => (arg 5; try tactic => exact nrm)); (conv => (arg 6; try tactic => exact nrm)))
      | (refine AL.bs rfl (fun hc => ?_) (fun hc => ?_) <;> (fail_if_success (with_reducible exact lit_no hc)) <;> (try replace hc := nc hc) <;> first | (exfalso; first | contradiction | (first | omega | (simp at *; done)); done) | (conv => (arg 5; try tactic => exact nrm)))
      | refine AL.nil ?_)
    | ((with_reducible refine AW.on ?_); first
      | refine AW.seq ?_
      | refine AW.skip ?_
      | refine AW.exit ?_
      | refine AW.ret ?_
      | refine AW.block ?_
      | (refine AW.region (id := 15) ?_; exfalso; first | omega | (simp at *; done); done)
      | refine AW.region ?_
      | (refine AW.conds rfl (fun hc => ?_) (fun hc => ?_) <;> (try replace hc := nc hc) <;> first | (exfalso; first | contradiction | (first | omega | (simp at *; done)); done) | skip))
    | ((with_reducible refine FinP.on ?_); (first | refine FinP.ret (.tmp wl .nil) ?_ rfl | refine FinP.end (.tmp wl .nil) ?_ rfl); (try simp only [pack, List.drop, List.take]); all_goals (rfl)))
end Go.Proofs.Ytmohcmghbfhdlaa
end
end
/- Chapter 6: MeshPoints of an empty list that is not nil (the law's). -/
section
set_option linter.unusedSimpArgs false
set_option linter.unusedVariables false
section
namespace Go.Proofs.Ytmohcmghbfhdlaa
open Go Go.RowKit Go.Ab Go.Me
set_option maxRecDepth 100000
set_option maxHeartbeats 4000000
attribute [local irreducible] OQ OW AL AW AD AF SW
theorem points_l0 : ACalls Try.prog 9 [lostV] [] (.slice (some ⟨0, 0, none⟩) 0 0) [some ⟨flatP [], true, 2⟩] := by
  refine ACalls.enter (t := [.slice (some ⟨0, 0, some default⟩) 0 0, undef, undef, undef, undef, undef]) Try.func9 rfl rfl fun E hE => ?_
  repeat' (first
    | with_reducible refine Then.n ?_
    | with_reducible refine Then.r ?_
    | with_reducible refine Then.x ?_
    | with_reducible refine InB.n ?_
    | with_reducible refine InB.r ?_
    | with_reducible refine InB.hit ?_
    | with_reducible refine InB.miss (by decide) ?_
    | ((with_reducible refine AL.on ?_); first
      | ((first | ((with_reducible refine AL.k_assign ?_); first | (refine AL.q rfl (OQ.assign wl) ?_)) | ((with_reducible refine AL.k_move ?_); first | (refine AL.q rfl (OQ.move wl) ?_))); (conv => (arg 5; try tactic => exact nrm)))
      | ((first | ((with_reducible refine AL.k_buildSlice ?_); first | refine AL.w rfl (OW.buildSl0 (ty := 22) (z := (none, 2, true)) kr) ?_) | ((with_reducible refine AL.k_call ?_); first | refine AL.q rfl (by exact OQ.append0 (v := undef) (e := 47) (z := 2) rfl rfl kr kr) ?_ | refine AL.w rfl rfl ?_)); (conv => (arg 5; try tactic => exact nrm)); (conv => (arg 6; try tactic => exact nrm)))
      | refine AL.nil ?_)
    | ((with_reducible refine AW.on ?_); first
      | refine AW.seq ?_
      | refine AW.skip ?_
      | refine AW.exit ?_
      | refine AW.ret ?_
      | refine AW.block ?_
      | refine AW.region ?_
      | (refine AW.conds rfl (fun hc => ?_) (fun hc => ?_) <;> (try replace hc := nc hc) <;> first | (exfalso; first | contradiction | (first | omega | (simp at hc; done)); done) | skip))
    | ((with_reducible refine FinA.on ?_); (refine FinA.keep 0 [0] (.inl rfl) (.tmp wl .nil) ?_ rfl (Nat.le_of_eq hE) rfl rfl ⟨⟨_, rfl, rfl, rfl, .inl ⟨rfl, rfl⟩⟩, trivial⟩; rfl)))
theorem rCheckPoints_l (m : Mem) : PCalls Try.prog 11 [lostV] m (.tuple #[.int .i64 0, .int .i64 0]) := by
  refine PCalls.viaS (m0 := []) (args0 := [lostV]) (v0 := .tuple #[.int .i64 0, .int .i64 0]) [] ?_ (fun b blk h => by simp [Mem.at] at h) trivial rfl rfl rfl rfl
  refine PCalls.enter (t := [.slice (some ⟨0, 0, some default⟩) 0 0, undef, undef, undef, undef, undef, undef, undef, undef, undef, undef, undef, undef, undef, undef, undef, undef, undef, undef, undef, undef, undef]) Try.func11 rfl (ro_nil) rfl fun E => ?_
  repeat' (first
    | with_reducible refine Then.n ?_
    | with_reducible refine Then.r ?_
    | with_reducible refine Then.x ?_
    | with_reducible refine InB.n ?_
    | with_reducible refine InB.r ?_
    | with_reducible refine InB.hit ?_
    | with_reducible refine InB.miss (by decide) ?_
    | ((with_reducible refine AL.on ?_); first
      | ((first | ((with_reducible refine AL.k_assign ?_); first | (refine AL.q rfl (OQ.assign wl) ?_)) | ((with_reducible refine AL.k_move ?_); first | (refine AL.q rfl (OQ.move wl) ?_)) | ((with_reducible refine AL.k_binOp ?_); first | refine AL.q rfl (OQ.gtr rfl rfl) ?_ | refine AL.q rfl (OQ.lss rfl rfl) ?_ | refine AL.q rfl (OQ.neq rfl rfl) ?_ | refine AL.q rfl (OQ.addi rfl rfl (by omega)) ?_ | refine AL.q rfl (OQ.add rfl rfl) ?_) | ((with_reducible refine AL.k_call ?_); first | refine AL.q rfl (OQ.lenS (xt := 22) (r := (none, 2, true)) rfl kr) ?_)); (conv => (arg 5; try tactic => exact nrm)))
      | ((first | first | refine AL.pcall (g := 32) rfl kr rfl (rfl) ?_); (conv => (arg 5; try tactic => exact nrm)))
      | refine AL.nil ?_)
    | ((with_reducible refine AW.on ?_); first
      | refine AW.seq ?_
      | refine AW.skip ?_
      | refine AW.exit ?_
      | refine AW.ret ?_
      | (refine AW.block (id := 0) ?_; refine AW.unroll 1 ?_)
      | refine AW.block ?_
      | refine AW.region ?_
      | (refine AW.conds rfl (fun hc => ?_) (fun hc => ?_) <;> (try replace hc := nc hc) <;> first | (exfalso; first | contradiction | (first | omega | (simp at hc; done)); done) | skip))
    | with_reducible refine AR.s ?_
    | ((with_reducible refine AR.out ?_); first | omega | (simp at hc; done); done)
    | ((with_reducible refine FinP.on ?_); (first | refine FinP.ret (.tmp wl (.tmp wl .nil)) ?_ rfl | refine FinP.end (.tmp wl (.tmp wl .nil)) ?_ rfl); (try simp only [pack, List.drop, List.take]); all_goals (rfl)))
theorem rHull_l (m : Mem) : PCalls Try.prog 12 [lostV] m (.slice none 0 0) := by
  refine PCalls.viaS (m0 := []) (args0 := [lostV]) (v0 := .slice none 0 0) [] ?_ (fun b blk h => by simp [Mem.at] at h) trivial rfl rfl rfl rfl
  refine PCalls.enter (t := [.slice (some ⟨0, 0, some default⟩) 0 0, undef, undef, undef, undef, undef, undef, undef, undef, undef, undef, undef, undef, undef, undef, undef, undef, undef, undef, undef, undef, undef, undef, undef, undef, undef, undef, undef, undef, undef, undef, undef, undef, undef, undef, undef, undef, undef, undef, undef, undef, undef, undef, undef, undef, undef, undef, undef, undef, undef, undef, undef, undef, undef, undef, undef, undef, undef, undef, undef, undef, undef, undef, undef, undef, undef, undef, undef, undef, undef, undef, undef, undef, undef, undef, undef, undef, undef, undef, undef, undef, undef, undef, undef, undef, undef, undef, undef, undef, undef, undef, undef, undef, undef, undef, undef, undef, undef, undef, undef, undef, undef, undef, undef, undef, undef, undef, undef, undef, undef, undef, undef, undef, undef, undef, undef, undef, undef, undef, undef, undef, undef, undef, undef, undef, undef, undef, undef, undef, undef, undef, undef, undef, undef, undef, undef, undef, undef, undef]) Try.func12 rfl (ro_nil) rfl fun E => ?_
  repeat' (first
    | with_reducible refine Then.n ?_
    | with_reducible refine Then.r ?_
    | with_reducible refine Then.x ?_
    | with_reducible refine InB.n ?_
    | with_reducible refine InB.r ?_
    | with_reducible refine InB.hit ?_
    | with_reducible refine InB.miss (by decide) ?_
    | ((with_reducible refine AL.on ?_); first
      | (refine AL.gd rfl ?_; first | (refine AL.gskip rfl rfl ?_; (conv => (arg 5; try tactic => exact nrm))) | (refine AL.gs1 rfl rfl (fun hc => ?_) (fun hc => ?_) <;> (try replace hc := nc hc) <;> first | (exfalso; first | contradiction | (first | omega | (simp at hc; done)); done) | (conv => (arg 5; try tactic => exact nrm))) | (refine AL.gs0 rfl rfl (fun hc => ?_) (fun hc => ?_) <;> (try replace hc := nc hc) <;> first | (exfalso; first | contradiction | (first | omega | (simp at hc; done)); done) | (conv => (arg 5; try tactic => exact nrm))))
      | ((first | ((with_reducible refine AL.k_move ?_); first | (refine AL.q rfl (OQ.move wl) ?_)) | ((with_reducible refine AL.k_assign ?_); first | (refine AL.q rfl (OQ.assign wl) ?_)) | ((with_reducible refine AL.k_binOp ?_); first | refine AL.q rfl (OQ.lss rfl rfl) ?_ | refine AL.q rfl (OQ.eql rfl rfl) ?_ | refine AL.q rfl (OQ.addi rfl rfl (by omega)) ?_ | refine AL.q rfl (OQ.add rfl rfl) ?_ | refine AL.q rfl (OQ.subi rfl rfl (by omega)) ?_ | refine AL.q rfl (OQ.sub rfl rfl) ?_ | refine AL.q rfl (OQ.gtr rfl rfl) ?_) | ((with_reducible refine AL.k_indexAddr ?_); first | refine AL.q rfl (OQ.idxAddr (ty := 29) (z := 1) (g := false) rfl rfl kr (by omega) (by omega)) ?_) | ((with_reducible refine AL.k_load ?_); first | (refine AL.q rfl (OQ.load1 (ty := 3) rfl kr wl) ?_)) | ((with_reducible refine AL.k_call ?_); first | refine AL.q rfl (OQ.lenS (xt := 22) (r := (none, 2, true)) rfl kr) ?_ | refine AL.q rfl (OQ.lenS (xt := 29) (r := (none, 1, false)) rfl kr) ?_) | ((with_reducible refine AL.k_pick ?_); first | (refine AL.q rfl (OQ.pickT rfl (by with_reducible rfl) wl) ?_) | (refine AL.q rfl (OQ.pickF rfl (by with_reducible rfl) wl) ?_))); (conv => (arg 5; try tactic => exact nrm)))
      | ((first | ((with_reducible refine AL.k_call ?_); first | refine AL.w rfl rfl ?_) | ((with_reducible refine AL.k_buildSlice ?_); first | refine AL.w rfl (OW.buildSl (ty := 29) (zs := [.int .i64 0]) (n := 1) (g := false) kr kr rfl rfl rfl (by decide) (by decide) rfl rfl) ?_)); (conv => (arg 5; try tactic => exact nrm)); (conv => (arg 6; try tactic => exact nrm)))
      | (refine AL.bs rfl (fun hc => ?_) (fun hc => ?_) <;> (fail_if_success (with_reducible exact lit_no hc)) <;> (try replace hc := nc hc) <;> first | (exfalso; first | contradiction | (first | omega | (simp at hc; done)); done) | (conv => (arg 5; try tactic => exact nrm)))
      | refine AL.nil ?_)
    | ((with_reducible refine AW.on ?_); first
      | refine AW.seq ?_
      | refine AW.skip ?_
      | refine AW.exit ?_
      | refine AW.ret ?_
      | (refine AW.block (id := 0) ?_; refine AW.unroll 1 ?_)
      | refine AW.block ?_
      | (refine AW.drawF (id := 5) 12 #[0, 1, 3, 7, 15, 3, 35, 99, 3, 3, 771, 1795, 4095, 8191, 16383, 32767] kr kr ?_; (conv => (arg 8; simp only [List.take_succ_cons, List.take_zero])))
      | (refine AW.drawF (id := 12) 34 #[0, 0, 3, 7, 15, 0, 0, 96, 224, 480, 1023, 2047, 4095, 4095, 16383, 32767, 65535, 4095, 4095, 397311, 921599, 1970175, 4194303, 8388607, 16777215, 16777215, 67108863, 134217727, 268435455, 16777215, 16777215, 1627389951, 3774873599, 8069840895, 17179869183, 34359738367, 68719476735] kr kr ?_; (conv => (arg 8; simp only [List.take_succ_cons, List.take_zero])))
      | (refine AW.drawF (id := 20) 25 #[0, 0, 3, 7, 15, 15, 15, 127, 255, 511, 1023, 2047, 4095, 8191, 8191, 32767, 65535, 8191, 8191, 401407, 925695, 8191, 8191, 6299647, 14688255, 33554431, 67108863, 134217727] kr kr ?_; (conv => (arg 8; simp only [List.take_succ_cons, List.take_zero])))
      | (refine AW.region (id := 8) ?_; exfalso; first | omega | (simp at hc; done); done)
      | refine AW.region ?_
      | (refine AW.conds rfl (fun hc => ?_) (fun hc => ?_) <;> (try replace hc := nc hc) <;> first | (exfalso; first | contradiction | (first | omega | (simp at hc; done)); done) | skip))
    | ((with_reducible refine AF.on ?_); first
      | (refine AF.q 0 (SW.skip rfl rfl) ?_; (conv => (arg 9; try tactic => exact nrmF)); (conv => (arg 11; try simp only [List.nil_append, List.cons_append])))
      | ((first | refine AF.q 0 (SW.no1 rfl rfl (by with_reducible rfl)) ?_ | refine AF.q 0 (SW.no0 rfl rfl (by with_reducible rfl)) ?_); (conv => (arg 9; try tactic => exact nrmF)); (conv => (arg 11; try simp only [List.nil_append, List.cons_append])))
      | ((first | ((with_reducible refine AF.k_move ?_); first | (refine AF.q 0 (SW.q (OQ.move wl) rfl) ?_) | (refine AF.q 0 (SW.yes (SW.q (OQ.move wl) rfl) rfl rfl (by with_reducible rfl)) ?_)) | ((with_reducible refine AF.k_binOp ?_); first | refine AF.q 0 (SW.q (OQ.lss rfl rfl) rfl) ?_ | refine AF.q 0 (SW.yes (SW.q (OQ.eql rfl rfl) rfl) rfl rfl (by with_reducible rfl)) ?_ | refine AF.q 0 (SW.q (OQ.neq rfl rfl) rfl) ?_ | refine AF.q 0 (SW.yes (SW.q (OQ.lss rfl rfl) rfl) rfl rfl (by with_reducible rfl)) ?_) | ((with_reducible refine AF.k_indexAddr ?_); first | refine AF.q 0 (SW.yes (SW.q (OQ.idxAddr (ty := 22) (z := 2) (g := true) rfl rfl kr (by omega) (by omega)) rfl) rfl rfl (by with_reducible rfl)) ?_ | refine AF.q 0 (SW.q (OQ.idxAddr (ty := 22) (z := 2) (g := true) rfl rfl kr (by omega) (by omega)) rfl) ?_) | ((with_reducible refine AF.k_load ?_); first | refine AF.ql rfl (SW.yes (SW.q (OQ.loadN (ty := 47) (n := 2) rfl kr kr rfl) rfl) rfl rfl (by with_reducible rfl)) ?_ | (refine AF.ql rfl (SW.q (OQ.load1 (ty := 3) rfl kr wl) rfl) ?_) | (refine AF.ql rfl (SW.yes (SW.q (OQ.load1 (ty := 3) rfl kr wl) rfl) rfl rfl (by with_reducible rfl)) ?_)) | ((with_reducible refine AF.k_pick ?_); first | (refine AF.q 0 (SW.q (OQ.pickT rfl (by with_reducible rfl) wl) rfl) ?_) | (refine AF.q 0 (SW.q (OQ.pickF rfl (by with_reducible rfl) wl) rfl) ?_)) | ((with_reducible refine AF.k_fieldAddr ?_); first | refine AF.q 0 (SW.q (OQ.fieldA (ty := 47) (i := 0) (n := 1) (off := 0) (g := false) rfl kr (by decide)) rfl) ?_ | refine AF.q 0 (SW.yes (SW.q (OQ.fieldA (ty := 47) (i := 0) (n := 1) (off := 0) (g := false) rfl kr (by decide)) rfl) rfl rfl (by with_reducible rfl)) ?_ | refine AF.q 0 (SW.yes (SW.q (OQ.fieldA (ty := 47) (i := 1) (n := 1) (off := 1) (g := false) rfl kr (by decide)) rfl) rfl rfl (by with_reducible rfl)) ?_)); (conv => (arg 9; try tactic => exact nrmF)); (conv => (arg 11; try simp only [List.nil_append, List.cons_append])))
      | (refine AF.bs rfl (fun hc => ?_) (fun hc => ?_) <;> (fail_if_success (with_reducible exact lit_no hc)) <;> (try replace hc := nc hc) <;> first | (exfalso; first | contradiction | (first | omega | (simp at hc; done)); done) | skip)
      | (refine AF.gs1 rfl rfl (fun hc => ?_) (fun hc => ?_) <;> (fail_if_success (with_reducible exact lit_no hc)) <;> (try replace hc := nc hc) <;> first | (exfalso; first | contradiction | (first | omega | (simp at hc; done)); done) | skip)
      | (refine AF.gs0 rfl rfl (fun hc => ?_) (fun hc => ?_) <;> (fail_if_success (with_reducible exact lit_no hc)) <;> (try replace hc := nc hc) <;> first | (exfalso; first | contradiction | (first | omega | (simp at hc; done)); done) | skip)
      | (refine AF.nil ?_ kr; (conv => (arg 4; simp only [List.drop_succ_cons, List.drop_zero, List.drop_nil]))))
    | with_reducible refine AR.s ?_
    | ((with_reducible refine AR.out ?_); first | omega | (simp at hc; done); done)
    | ((with_reducible refine FinP.on ?_); (first | refine FinP.ret (.tmp wl .nil) ?_ rfl | refine FinP.end (.tmp wl .nil) ?_ rfl); (try simp only [pack, List.drop, List.take]); all_goals (rfl)))
theorem few_l (m : Mem) : PCalls Try.prog 7 [lostV] m (.bool true) := by
  refine PCalls.viaS (m0 := []) (args0 := [lostV]) (v0 := .bool true) [] ?_ (fun b blk h => by simp [Mem.at] at h) trivial rfl rfl rfl rfl
  refine PCalls.enter (t := [.slice (some ⟨0, 0, some default⟩) 0 0, undef, undef, undef, undef, undef, undef, undef, undef, undef, undef, undef, undef, undef, undef, undef]) Try.func7 rfl (ro_nil) rfl fun E => ?_
  repeat' (first
    | with_reducible refine Then.n ?_
    | with_reducible refine Then.r ?_
    | with_reducible refine Then.x ?_
    | with_reducible refine InB.n ?_
    | with_reducible refine InB.r ?_
    | with_reducible refine InB.hit ?_
    | with_reducible refine InB.miss (by decide) ?_
    | ((with_reducible refine AL.on ?_); first
      | (refine AL.gd rfl ?_; first | (refine AL.gskip rfl rfl ?_; (conv => (arg 5; try tactic => exact nrm))) | (refine AL.gs1 rfl rfl (fun hc => ?_) (fun hc => ?_) <;> (try replace hc := nc hc) <;> first | (exfalso; first | contradiction | (first | omega | (simp at hc; done)); done) | (conv => (arg 5; try tactic => exact nrm))) | (refine AL.gs0 rfl rfl (fun hc => ?_) (fun hc => ?_) <;> (try replace hc := nc hc) <;> first | (exfalso; first | contradiction | (first | omega | (simp at hc; done)); done) | (conv => (arg 5; try tactic => exact nrm))))
      | ((first | ((with_reducible refine AL.k_move ?_); first | (refine AL.q rfl (OQ.move wl) ?_)) | ((with_reducible refine AL.k_call ?_); first | refine AL.q rfl (OQ.lenS (xt := 22) (r := (none, 2, true)) rfl kr) ?_) | ((with_reducible refine AL.k_binOp ?_); first | refine AL.q rfl (OQ.leq rfl rfl) ?_ | refine AL.q rfl (OQ.gtr rfl rfl) ?_) | ((with_reducible refine AL.k_assign ?_); first | (refine AL.q rfl (OQ.assign wl) ?_)) | ((with_reducible refine AL.k_pick ?_); first | (refine AL.q rfl (OQ.pickT rfl (by with_reducible rfl) wl) ?_) | (refine AL.q rfl (OQ.pickF rfl (by with_reducible rfl) wl) ?_))); (conv => (arg 5; try tactic => exact nrm)))
      | (refine AL.bs rfl (fun hc => ?_) (fun hc => ?_) <;> (fail_if_success (with_reducible exact lit_no hc)) <;> (try replace hc := nc hc) <;> first | (exfalso; first | contradiction | (first | omega | (simp at hc; done)); done) | (conv => (arg 5; try tactic => exact nrm)))
      | refine AL.nil ?_)
    | ((with_reducible refine AW.on ?_); first
      | refine AW.seq ?_
      | refine AW.skip ?_
      | refine AW.exit ?_
      | refine AW.ret ?_
      | refine AW.block ?_
      | refine AW.region ?_
      | (refine AW.conds rfl (fun hc => ?_) (fun hc => ?_) <;> (try replace hc := nc hc) <;> first | (exfalso; first | contradiction | (first | omega | (simp at hc; done)); done) | skip))
    | ((with_reducible refine FinP.on ?_); (first | refine FinP.ret (.tmp wl .nil) ?_ rfl | refine FinP.end (.tmp wl .nil) ?_ rfl); (try simp only [pack, List.drop, List.take]); all_goals (rfl)))
theorem points_l (m : Mem) : ACalls Try.prog 9 [lostV] m (.slice (some ⟨m.length, 0, none⟩) 0 0) (m ++ [some ⟨flatP [], true, 2⟩]) := by
  have h := ACalls.viaS (m := m) (args := [lostV]) (v := .slice (some ⟨m.length, 0, none⟩) 0 0) [] [] [some ⟨flatP [], true, 2⟩] points_l0 trivial (by simp) ⟨⟨rfl, rfl, rfl, .inl ⟨rfl, rfl⟩⟩, trivial⟩ rfl rfl rfl rfl
  exact h
theorem MeshPoints_l : PCalls Try.prog 3 [lostV] [] (.bool true) := by
  have hcp := fun (m : Mem) (b : Nat) (blk : Blk) (h1 : m.at b = some blk) (h2 : blk.cells = flatP []) (hz : blk.esz = 0 ∨ blk.esz = 2) (h3 : blk.obj = Ob.plain) => CheckPoints_q (c := 0) [] h1 h2 rfl (by decide) hz h3
  have hH := fun (m : Mem) (b : Nat) (blk : Blk) (h1 : m.at b = some blk) (h2 : blk.cells = flatP []) (hz : blk.esz = 0 ∨ blk.esz = 2) (h3 : blk.obj = Ob.plain) => Hull_n (c := 0) [] (by kernel_rfl) (by kernel_rfl) h1 h2 rfl hz h3
  rw [show cpA [] = 0 by kernel_rfl, show cpB [] = 0 by kernel_rfl] at hcp
  refine PCalls.enter (t := [.slice (some ⟨0, 0, some default⟩) 0 0, undef, undef, undef, undef, undef, undef, undef, undef, undef, undef, undef, undef, undef, undef, undef, undef, undef, undef, undef, undef, undef, undef, undef, undef, undef, undef, undef, undef, undef, undef, undef, undef, undef, undef, undef, undef, undef, undef, undef, undef, undef, undef, undef, undef, undef, undef, undef, undef, undef, undef, undef, undef, undef, undef, undef, undef, undef, undef, undef, undef, undef, undef, undef, undef, undef, undef, undef, undef]) Try.func3 rfl (ro_nil) rfl fun E => ?_
  repeat' (first
    | with_reducible refine Then.n ?_
    | with_reducible refine Then.r ?_
    | with_reducible refine Then.x ?_
    | with_reducible refine InB.n ?_
    | with_reducible refine InB.r ?_
    | with_reducible refine InB.hit ?_
    | with_reducible refine InB.miss (by decide) ?_
    | ((with_reducible refine AL.on ?_); first
      | (refine AL.gd rfl ?_; first | (refine AL.gskip rfl rfl ?_; (conv => (arg 5; try tactic => exact nrm))) | (refine AL.gs1 rfl rfl (fun hc => ?_) (fun hc => ?_) <;> (try replace hc := nc hc) <;> first | (exfalso; first | contradiction | (first | omega | (simp at *; done)); done) | (conv => (arg 5; try tactic => exact nrm))) | (refine AL.gs0 rfl rfl (fun hc => ?_) (fun hc => ?_) <;> (try replace hc := nc hc) <;> first | (exfalso; first | contradiction | (first | omega | (simp at *; done)); done) | (conv => (arg 5; try tactic => exact nrm))))
      | ((first | ((with_reducible refine AL.k_move ?_); first | (refine AL.q rfl (OQ.move wl) ?_)) | ((with_reducible refine AL.k_assign ?_); first | (refine AL.q rfl (OQ.assign wl) ?_)) | ((with_reducible refine AL.k_call ?_); first | refine AL.q rfl (OQ.lenS (xt := 29) (r := (none, 1, false)) rfl kr) ?_) | ((with_reducible refine AL.k_binOp ?_); first | refine AL.q rfl (OQ.neq rfl rfl) ?_ | refine AL.q rfl (OQ.eql rfl rfl) ?_) | ((with_reducible refine AL.k_extract ?_); first | refine AL.q rfl (OQ.extract rfl rfl) ?_) | ((with_reducible refine AL.k_pick ?_); first | (refine AL.q rfl (OQ.pickT rfl (by with_reducible rfl) wl) ?_) | (refine AL.q rfl (OQ.pickF rfl (by with_reducible rfl) wl) ?_)) | ((with_reducible refine AL.k_unOp ?_); first | refine AL.q rfl (OQ.not rfl) ?_)); (conv => (arg 5; try tactic => exact nrm)))
      | ((first | first | refine AL.pcall (g := 6) rfl kr rfl ((by exact awake_q _)) ?_ | refine AL.pcall (g := 7) rfl kr rfl ((by exact few_l _)) ?_ | refine AL.pcall (g := 8) rfl kr rfl ((by exact hcp _ _ _ rfl rfl (.inr rfl) rfl)) ?_ | refine AL.pcall (g := 10) rfl kr rfl ((by exact hH _ _ _ rfl rfl (.inr rfl) rfl)) ?_ | refine AL.pcall (g := 11) rfl kr rfl ((by exact rCheckPoints_l _)) ?_ | refine AL.pcall (g := 12) rfl kr rfl ((by exact rHull_l _)) ?_ | refine AL.pcall (g := 13) rfl kr rfl (rfl) ?_); (conv => (arg 5; try tactic => exact nrm)))
      | ((first | first | refine AL.acall (g := 9) rfl kr rfl ((by exact points_l _)) ?_); (conv => (arg 5; try tactic => exact nrm)); (conv => (arg 6; try tactic => exact nrm)))
      | (refine AL.bs rfl (fun hc => ?_) (fun hc => ?_) <;> (fail_if_success (with_reducible exact lit_no hc)) <;> (try replace hc := nc hc) <;> first | (exfalso; first | contradiction | (first | omega | (simp at *; done)); done) | (conv => (arg 5; try tactic => exact nrm)))
      | refine AL.nil ?_)
    | ((with_reducible refine AW.on ?_); first
      | refine AW.seq ?_
      | refine AW.skip ?_
      | refine AW.exit ?_
      | refine AW.ret ?_
      | refine AW.block ?_
      | (refine AW.region (id := 15) ?_; exfalso; first | omega | (simp at *; done); done)
      | refine AW.region ?_
      | (refine AW.conds rfl (fun hc => ?_) (fun hc => ?_) <;> (try replace hc := nc hc) <;> first | (exfalso; first | contradiction | (first | omega | (simp at *; done)); done) | skip))
    | ((with_reducible refine FinP.on ?_); (first | refine FinP.ret (.tmp wl .nil) ?_ rfl | refine FinP.end (.tmp wl .nil) ?_ rfl); (try simp only [pack, List.drop, List.take]); all_goals (rfl)))
end Go.Proofs.Ytmohcmghbfhdlaa
end
end
/- Arguments of which lists are in memory, in the small memory. -/
section
set_option linter.unusedSimpArgs false
set_option linter.unusedVariables false
namespace Go.Ls
open Go.ChangeShapes Go.WideShapes Go.ChangeAt Go Go.RowKit Go.Ab
def plL (L : List (Option Addr × List Value)) (b : Nat) : Option Pl := match L[b]? with
  | some x => plX x.1 x.2
  | none => none
theorem glueL {P : Program} {f : FuncId} {args : List Value} {vals : Array Value} {w : World} (L : List (Option Addr × List Value)) (hs : ∀ x ∈ L, x.2.all scal = true ∧ SlX w x.1 x.2) (hv : VRel (plL L) (.tuple args.toArray) (.tuple vals))
    (h : PCalls P f args (L.map fun x => blX x.2) (.bool true)) : Calls P f vals w fun e w' => e = .returned (.bool true) ∧ Below w.heap.size w w' := by
  refine (h (plL L) _ w (fun b pl hb => ?_) hv (fun b blk hb => ?_)).mono fun e w' ⟨v', he, hr, hb⟩ => ⟨by rw [he, hr.bool], hb.below⟩
  · unfold plL at hb
    cases hx : L[b]? with
    | none => rw [hx] at hb; cases hb
    | some x =>
      have := (List.getElem?_eq_some_iff.1 hx).1
      simpa using this
  · have hlt := Mem.at_lt hb
    have hlt' : b < L.length := by simpa using hlt
    have hx : L[b]? = some L[b] := List.getElem?_eq_getElem hlt'
    obtain ⟨h1, h2⟩ := hs _ (List.getElem_mem hlt')
    have hb' : blX L[b].2 = some blk := by simpa [Mem.at, hx] using hb
    obtain ⟨pl, k1, k2⟩ := blX_rel (ρ := plL L) (i := b) h1 h2 (by unfold plL; rw [hx]) hb'
    exact ⟨pl, k1, k2, fun ho => by rw [blX_ro _ _ hb'] at ho; cases ho⟩
theorem SlG.arg {m : Mem} {i n : Nat} {z : Bool} {cs : List Value} (h : m.at i = blX cs) (hn : cs = [] ↔ n = 0) : SlG m (vaX i n z) cs n := by
  unfold vaX
  by_cases hl : n = 0
  · rw [if_pos hl]
    cases z
    · exact .lost hl rfl
    · exact .nil hl rfl
  · rw [if_neg hl]
    unfold blX at h
    rw [if_neg (fun h => hl (hn.1 h))] at h
    exact .blk i _ rfl h rfl
section
variable {H : Type} {enc : TypeId × Value → H} {P : Program}
theorem post_below {f : Func} {s : ChangeSpec} {apart fresh handsOn again : Bool} {W W' : World} {args : Array Value} {v : Value} {ds gs : List (DataW H)} {before pa pv : List MemPlace}
    (hW : DataW.Whole enc P f.params.toList s.vars apart W args.toList ds gs before)
    (hres : ∀ (b : Nat) (sp : Nat → Bool) (hd : Bool), DataW.TrodAll enc P W' b sp hd f.resultTypes.toList (v.resultList f.resultTypes.size) (s.fn H (ds ++ gs)).results [])
    (hargs : ∀ sp : Nat → Bool, (∀ p ∈ before, sp p.block = true) → DataW.TrodAll enc P W' 0 sp true f.params.toList args.toList (s.fn H (ds ++ gs)).args pa)
    (hvars : ∀ sp : Nat → Bool, (∀ p ∈ before, sp p.block = true) → DataW.TrodVars enc P W' sp s.vars (s.fn H (ds ++ gs)).vars pv)
    (hps : before = pa ++ pv) (hb : Below W.heap.size W W')
    (hok : ∀ (j : Nat) (t : TypeId) (r : Value), f.resultTypes[j]? = some t → (v.resultList f.resultTypes.size)[j]? = some r → Value.okWide P W' .any 0 t r) :
    s.post enc P f apart fresh handsOn again W args v W' := by
  have hlt : ∀ p ∈ before, p.block < W.heap.size := fun p hp => hW.lt p hp
  have hold : ∀ p ∈ before, (fun b => decide (b < W.heap.size)) p.block = true := fun p hp => by simpa using hlt p hp
  refine ⟨ds, gs, before, [], pa, pv, hW, hres _ _ _, hargs _ hold, hvars _ hold, World.keptBut_mono (fun p hp => ⟨hp, ?_⟩) (hb.frame (· ∈ before)), fun _ => ?_⟩
  · rw [hps, List.mem_append] at hp
    exact Or.inr hp
  · obtain ⟨_, _, _, _, _, hz, hn⟩ := hW
    refine ⟨hok, _, _, ([] ++ pa) ++ pv, ⟨[] ++ pa, pv, trodAll_append (hargs _ (fun _ _ => rfl)) (hres _ _ _), hvars _ (fun _ _ => rfl), rfl, ?_, ?_⟩, ?_⟩
    · intro b off hp
      have hin : MemPlace.cell b off ∈ before := by rw [hps]; simpa using hp
      rw [hb.frozen (hlt _ hin)]
      exact hz b off hin
    · intro ha
      have := hn ha
      rw [hps] at this
      simpa using this
    · intro p hp _
      rw [hps]
      simpa using hp
end
end Go.Ls
end
/- How the arguments of the statements of chapter 6 read. -/
section
set_option linter.unusedSimpArgs false
set_option linter.unusedVariables false
section
namespace Go.Proofs.Ytmohcmghbfhdlaa
open Go.ChangeShapes Go.WideShapes Go.ChangeAt Go Go.RowKit Go.Ab Go.Ls Go.Me
set_option maxRecDepth 100000
theorem laid : laidOutB Try.prog = true := by kernel_rfl
theorem own : ownKnob Try.prog.godebug = none := by kernel_rfl
def mkP (f : Nat → Int) : Pn := ⟨f 0, f 1⟩
theorem cells_mp : Try.prog.cellsOf 47 = 2 := by kernel_rfl
theorem ints_mp : intsT Try.prog 4 47 = true := by kernel_rfl
theorem open_MP {H : Type} {enc : TypeId × Value → H} {w : World} {base : Nat} {spare : Nat → Bool} {held : Bool} {r : Reach} {b0 : Nat} {v : Value} {d : DataW H} {p : List MemPlace} (hv : Value.okWide Try.prog w r b0 22 v) (h : DataW.Trod enc Try.prog w base spare held 22 v d p) :
    ∃ a l cap, v = .slice a (List.length (α := Pn) l) cap ∧ l.length ≤ cap ∧ cap ≤ maxLen ∧ SlX w a (flatP l) ∧ (a = none → cap = 0) := by
  obtain ⟨a0, len, cap0, rfl⟩ := okWide_slice Try.underlying22 hv
  obtain ⟨fuel, hf⟩ := h
  obtain ⟨a, l, cap, e, h1, h2, h3, h4, _⟩ := open_ints ptC (fun _ => rfl) mkP (fun f j hj => match j, hj with | 0, _ => rfl | 1, _ => rfl) Try.underlying22 cells_mp (by decide) ints_mp hf
  exact ⟨a, l, cap, e, h1, h2, h3, h4⟩
theorem flatP_nil (l : List Pn) : flatP l = [] ↔ l.length = 0 := by
  rw [← List.length_eq_zero_iff, flatP_len]
  omega
end Go.Proofs.Ytmohcmghbfhdlaa
end
end
