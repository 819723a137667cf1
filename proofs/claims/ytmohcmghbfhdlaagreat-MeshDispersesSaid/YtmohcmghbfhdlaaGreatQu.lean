/- Chapter 6: tasks in a greater memory (the program's). -/
import Derived.Test.YtmohcmghbfhdlaaGreatQd
import Derived.Test.YtmohcmghbfhdlaaGreatQt
section
set_option linter.unusedSimpArgs false
set_option linter.unusedVariables false
section
namespace Go.Proofs.YtmohcmghbfhdlaaGreat
open Go Go.RowKit Go.Ab Go.Me
set_option maxRecDepth 100000
set_option maxHeartbeats 4000000
attribute [local irreducible] OQ OW AL AW AF SW
theorem ro9p (a b c d e f g h i : Blk) (h1 : a.own = false) (h2 : b.own = false) (h3 : c.own = false) (h4 : d.own = false) (h5 : e.own = false) (h6 : f.own = false) (h7 : g.own = false) (h8 : h.own = false) (h9 : i.own = false) : Mem.ro [some a, some b, some c, some d, some e, some f, some g, some h, some i] := fun k blk hk => by
 match k, hk with
 | 0, hk => cases hk; exact h1
 | 1, hk => cases hk; exact h2
 | 2, hk => cases hk; exact h3
 | 3, hk => cases hk; exact h4
 | 4, hk => cases hk; exact h5
 | 5, hk => cases hk; exact h6
 | 6, hk => cases hk; exact h7
 | 7, hk => cases hk; exact h8
 | 8, hk => cases hk; exact h9
theorem cost_9 (l : List Pn) (ts : List T3) (ph cs xs : List Int) (hcl : cs.length = xs.length) (hb : ∀ k, k < xs.length → (0 ≤ nt cs k ∧ nt cs k ≤ 1000) ∧ (-100 ≤ nt xs k ∧ nt xs k ≤ 100)) (hl : xs.length ≤ 240) (c c2 c3 c4 cx z0 z1 z2 z4 z5 z6 z7 z8 : Nat) :
  PCalls Tryz.prog 86 [.pointer (some ⟨7, 0, none⟩), .slice (some ⟨8, 0, none⟩) xs.length cx] [some ⟨flatP l, false, z0⟩, some ⟨flatT ts, false, z1⟩, some ⟨[.slice (some ⟨0, 0, none⟩) l.length c, .slice (some ⟨1, 0, none⟩) ts.length c2, .slice (some ⟨4, 0, none⟩) (edL ts).length INF, .map (some 3)], false, z2⟩, some (mpX (lfA ts) false 0), some ⟨flatP (edL ts), false, z4⟩, some ⟨flatN ph, false, z5⟩, some ⟨flatN cs, false, z6⟩, some ⟨[.pointer (some ⟨2, 0, none⟩), .slice (some ⟨5, 0, none⟩) ph.length c3, .slice (some ⟨6, 0, none⟩) cs.length c4], false, z7⟩, some ⟨flatN xs, false, z8⟩] (.int .i64 (coL cs xs xs.length)) := by
 have hgC : ∀ k, k < xs.length → (flatN cs)[k]? = some (.int .i64 (nt cs k)) := fun k hk => flatN_get _ k (by omega)
 have hgX : ∀ k, k < xs.length → (flatN xs)[k]? = some (.int .i64 (nt xs k)) := fun k hk => flatN_get _ k hk
 have hcb := coL_bd (cs := cs) (xs := xs) hb
 have hs : ∀ k, coL cs xs (k + 1) = coL cs xs k + nt cs k * (if -nt xs k > nt xs k then -nt xs k else nt xs k) := fun k => rfl
 have h0 : coL cs xs 0 = 0 := rfl
 have hm : ∀ k, k < xs.length → (0 ≤ nt cs k * (if -nt xs k > nt xs k then -nt xs k else nt xs k) ∧ nt cs k * (if -nt xs k > nt xs k then -nt xs k else nt xs k) ≤ 100000) := fun k hk =>
  abs_mul (hb k hk).1 (hb k hk).2
 generalize coL cs xs = CC at *
 refine PCalls.en 29 Tryz.func86 rfl (ro9p _ _ _ _ _ _ _ _ _ rfl rfl rfl rfl rfl rfl rfl rfl rfl) rfl (fun E => ?_)
 repeat' (first | with_reducible (first | refine Then.n ?_ | refine Then.x ?_ | refine InB.n ?_ | refine InB.hit ?_) | ((with_reducible refine AL.on ?_); first | ((first | refine AL.mv ?_ | refine AL.as ?_ | ((with_reducible refine AL.k_binOp ?_); first | refine AL.g (OQ.lss rfl rfl) ?_ | refine AL.g (OQ.muli rfl rfl (by omega)) ?_ | refine AL.g (OQ.addi rfl rfl (by omega)) ?_) | ((with_reducible refine AL.k_load ?_); first | (refine AL.g (OQ.load1 (ty := 3) rfl kr (by first | (first | exact hgC k (by omega) | exact hgX k (by omega)) | (conv => lhs; whnf))) ?_) | (refine AL.g (OQ.load1 (ty := 26) rfl kr (by (conv => lhs; whnf))) ?_)) | ((with_reducible refine AL.k_call ?_); first | refine AL.g (OQ.lenS (xt := 26) (r := (none, 1, false)) rfl kr) ?_ | refine AL.g (OQ.max2 rfl rfl) ?_) | ((with_reducible refine AL.k_unOp ?_); refine AL.g (OQ.negi rfl (by omega)) ?_) | refine AL.g (OQ.nilCheck rfl) ?_); refine AL.nm ?_) | ((first | ((with_reducible refine AL.k_indexAddr ?_); refine AL.g (OQ.idxAddr (ty := 26) (z := 1) (g := false) rfl rfl kr (by omega) (by omega)) ?_) | ((with_reducible refine AL.k_fieldAddr ?_); refine AL.g (OQ.fieldA (ty := 134) (i := 2) (n := 1) (off := 2) (g := false) rfl kr (by decide)) ?_)); refine AL.nm ?_) | refine AL.nil ?_) | ((with_reducible refine AW.on ?_); first | refine AW.seq ?_ | refine AW.skip ?_ | refine AW.exit ?_ | refine AW.ret ?_ | ((refine AW.block (id := 0) ?_); (refine AW.fk [0, 5, 8, 9, 10] ?_); (refine AW.loop (fun n' t' m => ∃ k : Nat, n' = xs.length - k ∧ k ≤ xs.length ∧ t' = (mtz 31 0 [(0, .pointer (some ⟨7, 0, none⟩)), (5, .int .i64 (CC k)), (8, .slice (some ⟨8, 0, none⟩) xs.length cx), (9, .int .i64 (xs.length)), (10, .int .i64 (k))]) ∧ m = [some ⟨flatP l, false, z0⟩, some ⟨flatT ts, false, z1⟩, some ⟨[.slice (some ⟨0, 0, none⟩) l.length c, .slice (some ⟨1, 0, none⟩) ts.length c2, .slice (some ⟨4, 0, none⟩) (edL ts).length INF, .map (some 3)], false, z2⟩, some (mpX (lfA ts) false 0), some ⟨flatP (edL ts), false, z4⟩, some ⟨flatN ph, false, z5⟩, some ⟨flatN cs, false, z6⟩, some ⟨[.pointer (some ⟨2, 0, none⟩), .slice (some ⟨5, 0, none⟩) ph.length c3, .slice (some ⟨6, 0, none⟩) cs.length c4], false, z7⟩, some ⟨flatN xs, false, z8⟩]) (xs.length) (by exact ⟨0, rfl, Nat.zero_le _, by rw [h0]; rfl, rfl⟩) ?_); (rintro n' t' m ⟨k, rfl, hk, rfl, rfl⟩); (refine AW.nT ?_)) | refine AW.block ?_ | (refine AW.region (id := 5) ?_; ((have hq1 := hb k (by omega); have hq2 := hm k (by omega); have hq3 := hcb k (by omega)))) | refine AW.region ?_ | (refine AW.conds rfl (fun hc => ?_) (fun hc => ?_) <;> (try replace hc := nc hc) <;> skip)) | ((with_reducible refine ex_on ?_); (have hs2 := hs k; refine ⟨xs.length - (k + 1), _, _, by omega, ?_, k + 1, rfl, by omega, by rw [hs2], rfl⟩; exact Wk.fk [0, 5, 8, 9, 10] rfl)) | ((with_reducible refine FinP.on ?_); (refine FinP.ret (.tmp wl .nil) ?_ rfl); (try simp only [pack, List.drop, List.take]); all_goals ((obtain rfl : k = xs.length := (by omega); rfl))))
theorem cost_q {m : Mem} {bK bN bL bE bP bT bF bC c c2 c3 c4 : Nat} {l : List Pn} {ts : List T3} {ph cs : List Int} {bX n cx : Nat} {X : Blk} (h : OpenT m bK bN bL bE bP bT bF bC c c2 c3 c4 l ts ph cs) (xs : List Int) (hcl : cs.length = xs.length) (hb : ∀ k, k < xs.length → (0 ≤ nt cs k ∧ nt cs k ≤ 1000) ∧ (-100 ≤ nt xs k ∧ nt xs k ≤ 100)) (hl : xs.length ≤ 240) (x1 : m.at bX = some X) (x2 : X.cells = flatN xs) (hn : xs.length = n) (x3 : X.obj = Ob.plain := by rfl) :
  PCalls Tryz.prog 86 [.pointer (some ⟨bK, 0, none⟩), .slice (some ⟨bX, 0, none⟩) n cx] m (.int .i64 (coL cs xs n)) := by
 subst hn
 obtain ⟨⟨⟨A, a1, a2, a3⟩, ⟨B, b1, b2, b3⟩, ⟨N, n1, n2, n3⟩, ⟨own, l1⟩, ⟨D, d1, d2, d3⟩⟩, ⟨F, f1, f2, f3⟩, ⟨C, c1, c2', c3'⟩, ⟨K, k1, k2, k3⟩⟩ := h
 exact PCalls.viaS [bP, bT, bN, bL, bE, bF, bC, bK, bX] (cost_9 l ts ph cs xs hcl hb hl c c2 c3 c4 cx A.esz B.esz N.esz D.esz F.esz C.esz K.esz X.esz) (ro9p _ _ _ _ _ _ _ _ _ rfl rfl rfl rfl rfl rfl rfl rfl rfl)
  ⟨bS a1 a3 a2 (flatP_scal _), bS b1 b3 b2 (flatT_scal _), bI n1 n3 n2, ⟨_, l1, rfl, (fun h => nomatch h), .inl ⟨rfl, rfl⟩⟩, bS d1 d3 d2 (flatP_scal _), bS f1 f3 f2 (flatN_scal _), bS c1 c3' c2' (flatN_scal _), bI k1 k3 k2, bS x1 x3 x2 (flatN_scal _), trivial⟩ rfl rfl rfl rfl
theorem far_q {m : Mem} {bK bN bL bE bP bT bF bC c c2 c3 c4 : Nat} {l : List Pn} {ts : List T3} {ph cs : List Int} {bX n cx : Nat} {X : Blk} (h : OpenT m bK bN bL bE bP bT bF bC c c2 c3 c4 l ts ph cs) (xs : List Int) (hT : TaskR l ts ph cs) (hxl : xs.length = (edL ts).length) (hxb : ∀ k, k < xs.length → -1000000 ≤ nt xs k ∧ nt xs k ≤ 1000000) (R : Nat) (hW : WyR (acL ts cs xs xs.length) (wyF [-1] 1) R) (x1 : m.at bX = some X) (x2 : X.cells = flatN xs) (hn : xs.length = n) (hd : [bP, bT, bN, bL, bE, bF, bC, bK, bX].Nodup) (x3 : X.obj = Ob.plain := by rfl) :
  ACalls Tryz.prog 104 [.pointer (some ⟨bK, 0, none⟩), .slice (some ⟨bX, 0, none⟩) n cx] m (.slice (some ⟨m.length, 0, none⟩) ts.length INF) (m ++ [some ⟨flatN (faK (wyN (acL ts cs xs xs.length) (wyF [-1] 1) R) ts.length), true, 1⟩]) := by
 subst hn
 obtain ⟨⟨⟨A, a1, a2, a3⟩, ⟨B, b1, b2, b3⟩, ⟨N, n1, n2, n3⟩, ⟨own, l1⟩, ⟨D, d1, d2, d3⟩⟩, ⟨F, f1, f2, f3⟩, ⟨C, c1, c2', c3'⟩, ⟨K, k1, k2, k3⟩⟩ := h
 have h := ACalls.viaS (m := m) (args := [.pointer (some ⟨bK, 0, none⟩), .slice (some ⟨bX, 0, none⟩) xs.length cx]) (v := .slice (some ⟨m.length, 0, none⟩) ts.length INF) [bP, bT, bN, bL, bE, bF, bC, bK, bX] [] [some ⟨flatN (faK (wyN (acL ts cs xs xs.length) (wyF [-1] 1) R) ts.length), true, 1⟩] (far_0 l ts ph cs xs hT hxl hxb R hW c c2 c3 c4 cx A.esz B.esz N.esz D.esz F.esz C.esz K.esz X.esz)
  ⟨bS a1 a3 a2 (flatP_scal _), bS b1 b3 b2 (flatT_scal _), bI n1 n3 n2, ⟨_, l1, rfl, (fun h => nomatch h), .inl ⟨rfl, rfl⟩⟩, bS d1 d3 d2 (flatP_scal _), bS f1 f3 f2 (flatN_scal _), bS c1 c3' c2' (flatN_scal _), bI k1 k3 k2, bS x1 x3 x2 (flatN_scal _), trivial⟩ hd ⟨⟨_, rfl, rfl⟩, ⟨_, rfl, rfl⟩, ⟨_, rfl, rfl⟩, ⟨_, rfl, rfl⟩, ⟨_, rfl, rfl⟩, ⟨_, rfl, rfl⟩, ⟨_, rfl, rfl⟩, ⟨_, rfl, rfl⟩, ⟨_, rfl, rfl⟩, ⟨rfl, rfl, rfl, .inl ⟨rfl, flatN_scal _⟩⟩, trivial⟩ rfl rfl rfl rfl
 exact h
theorem least_q {m : Mem} {bK bN bL bE bP bT bF bC c c2 c3 c4 : Nat} {l : List Pn} {ts : List T3} {ph cs : List Int} (h : OpenT m bK bN bL bE bP bT bF bC c c2 c3 c4 l ts ph cs) (hT : TaskR l ts ph cs) (n0 : Nat) (y : List Int) (hL : LeR ts cs n0 (List.replicate (edL ts).length 0) (suK (clL ts ph) ts.length) y) (hd : [bP, bT, bN, bL, bE, bF, bC, bK].Nodup) :
  ACalls Tryz.prog 103 [.pointer (some ⟨bK, 0, none⟩)] m (.slice (some ⟨m.length, 0, none⟩) (edL ts).length (edL ts).length) (m ++ [some ⟨flatN y, true, 1⟩]) := by
 obtain ⟨⟨⟨A, a1, a2, a3⟩, ⟨B, b1, b2, b3⟩, ⟨N, n1, n2, n3⟩, ⟨own, l1⟩, ⟨D, d1, d2, d3⟩⟩, ⟨F, f1, f2, f3⟩, ⟨C, c1, c2', c3'⟩, ⟨K, k1, k2, k3⟩⟩ := h
 have h := ACalls.viaS (m := m) (args := [.pointer (some ⟨bK, 0, none⟩)]) (v := .slice (some ⟨m.length, 0, none⟩) (edL ts).length (edL ts).length) [bP, bT, bN, bL, bE, bF, bC, bK] [] [some ⟨flatN y, true, 1⟩] (least_0 l ts ph cs hT n0 y hL c c2 c3 c4 A.esz B.esz N.esz D.esz F.esz C.esz K.esz)
  ⟨bS a1 a3 a2 (flatP_scal _), bS b1 b3 b2 (flatT_scal _), bI n1 n3 n2, ⟨_, l1, rfl, (fun h => nomatch h), .inl ⟨rfl, rfl⟩⟩, bS d1 d3 d2 (flatP_scal _), bS f1 f3 f2 (flatN_scal _), bS c1 c3' c2' (flatN_scal _), bI k1 k3 k2, trivial⟩ hd ⟨⟨_, rfl, rfl⟩, ⟨_, rfl, rfl⟩, ⟨_, rfl, rfl⟩, ⟨_, rfl, rfl⟩, ⟨_, rfl, rfl⟩, ⟨_, rfl, rfl⟩, ⟨_, rfl, rfl⟩, ⟨_, rfl, rfl⟩, ⟨rfl, rfl, rfl, .inl ⟨rfl, flatN_scal _⟩⟩, trivial⟩ rfl rfl rfl rfl
 exact h
theorem openTask_q {m : Mem} {bP bT bF bC n k j i c c2 c3 c4 : Nat} {F C : Blk} (l : List Pn) (ts : List T3) (ph cs : List Int) (hA : ArgN m bP bT l ts) (hn : l.length = n) (hk : ts.length = k) (f1 : m.at bF = some F) (f2 : F.cells = flatN ph) (hj : ph.length = j) (c1 : m.at bC = some C) (c2' : C.cells = flatN cs) (hi : cs.length = i) (hT : TaskR l ts ph cs) (hd : [bP, bT, bF, bC].Nodup) (f3 : F.obj = Ob.plain := by rfl) (c3' : C.obj = Ob.plain := by rfl) :
  ACalls Tryz.prog 85 [.agg #[.slice (some ⟨bP, 0, none⟩) n c, .slice (some ⟨bT, 0, none⟩) k c2, .slice (some ⟨bF, 0, none⟩) j c3, .slice (some ⟨bC, 0, none⟩) i c4]] m (.tuple #[.pointer (some ⟨m.length + 3, 0, none⟩), .int .i64 0]) (m ++ [some ⟨[.slice (some ⟨bP, 0, none⟩) n c, .slice (some ⟨bT, 0, none⟩) k c2, .slice (some ⟨m.length + 2, 0, none⟩) (edL ts).length INF, .map (some (m.length + 1))], true, 0⟩, some (mpX (lfA ts) true 0), some ⟨flatP (edL ts), true, 2⟩, some ⟨[.pointer (some ⟨m.length, 0, none⟩), .slice (some ⟨bF, 0, none⟩) j c3, .slice (some ⟨bC, 0, none⟩) i c4], true, 0⟩]) := by
 subst hn hk hj hi
 obtain ⟨⟨A, a1, a2, h3, a3⟩, ⟨B, b1, b2, b3⟩, _⟩ := hA
 have h := ACalls.viaS (m := m) (args := [.agg #[.slice (some ⟨bP, 0, none⟩) l.length c, .slice (some ⟨bT, 0, none⟩) ts.length c2, .slice (some ⟨bF, 0, none⟩) ph.length c3, .slice (some ⟨bC, 0, none⟩) cs.length c4]]) (v := .tuple #[.pointer (some ⟨m.length + 3, 0, none⟩), .int .i64 0]) [bP, bT, bF, bC] [] [some ⟨[.slice (some ⟨bP, 0, none⟩) l.length c, .slice (some ⟨bT, 0, none⟩) ts.length c2, .slice (some ⟨m.length + 2, 0, none⟩) (edL ts).length INF, .map (some (m.length + 1))], true, 0⟩, some (mpX (lfA ts) true 0), some ⟨flatP (edL ts), true, 2⟩, some ⟨[.pointer (some ⟨m.length, 0, none⟩), .slice (some ⟨bF, 0, none⟩) ph.length c3, .slice (some ⟨bC, 0, none⟩) cs.length c4], true, 0⟩] (openTask_y0 l ts ph cs hT c c2 c3 c4 A.esz B.esz F.esz C.esz h3)
  ⟨bS a1 a3 a2 (flatP_scal _), bS b1 b3 b2 (flatT_scal _), bS f1 f3 f2 (flatN_scal _), bS c1 c3' c2' (flatN_scal _), trivial⟩ hd ?_ rfl rfl rfl rfl
 ·exact h
 ·exact ⟨⟨_, rfl, rfl⟩, ⟨_, rfl, rfl⟩, ⟨_, rfl, rfl⟩, ⟨_, rfl, rfl⟩, ⟨rfl, rfl, rfl, .inr ⟨rfl, rfl⟩⟩, ⟨rfl, rfl, rfl, .inl ⟨rfl, rfl⟩⟩, ⟨rfl, rfl, rfl, .inl ⟨rfl, flatP_scal _⟩⟩, ⟨rfl, rfl, rfl, .inr ⟨rfl, rfl⟩⟩, trivial⟩
end Go.Proofs.YtmohcmghbfhdlaaGreat
end
end
/- Chapter 6: Unwrap (the program's). -/
section
set_option linter.unusedSimpArgs false
set_option linter.unusedVariables false
section
namespace Go.Proofs.YtmohcmghbfhdlaaGreat
open Go Go.RowKit Go.Ab Go.Me
set_option maxRecDepth 100000
set_option maxHeartbeats 4000000
attribute [local irreducible] OQ OW AL AW AF SW
theorem Unwrap_y0 (l : List Pn) (ts : List T3) (ph cs : List Int) (hT : TaskR l ts ph cs) (n0 : Nat) (y : List Int) (hL : LeR ts cs n0 (List.replicate (edL ts).length 0) (suK (clL ts ph) ts.length) y) (hyb : ∀ k, k < y.length → -100 ≤ nt y k ∧ nt y k ≤ 100) (R : Nat) (hW : WyR (acL ts cs y y.length) (wyF [-1] 1) R) (c c2 c3 c4 z z1 z2 z3 : Nat) (hz : z = 0 ∨ z = 2) :
  ACalls Tryz.prog 63 [.agg #[.slice (some ⟨0, 0, none⟩) l.length c, .slice (some ⟨1, 0, none⟩) ts.length c2, .slice (some ⟨2, 0, none⟩) ph.length c3, .slice (some ⟨3, 0, none⟩) cs.length c4]] [some ⟨flatP l, false, z⟩, some ⟨flatT ts, false, z1⟩, some ⟨flatN ph, false, z2⟩, some ⟨flatN cs, false, z3⟩]
   (.tuple #[.slice (some ⟨4, 0, none⟩) (edL ts).length (edL ts).length, .slice (some ⟨5, 0, none⟩) ts.length INF, .int .i64 (coL cs y (edL ts).length), .int .i64 0]) [some ⟨flatP l, false, z⟩, some ⟨flatT ts, false, z1⟩, some ⟨flatN ph, false, z2⟩, some ⟨flatN cs, false, z3⟩, some ⟨flatN y, true, 1⟩, some ⟨flatN (faK (wyN (acL ts cs y y.length) (wyF [-1] 1) R) ts.length), true, 1⟩] := by
 have hyl : y.length = (edL ts).length := by rw [hL.len, List.length_replicate]
 have hcl := hT.len
 have hcb := anyR_no hT.rng
 have hle := edL_le ts
 have h80 := hT.net.le
 have hop := fun (m : Mem) (hA : ArgN m 0 1 l ts) (F C : Blk) (f1 : m.at 2 = some F) (f2 : F.cells = flatN ph) (f3 : F.obj = Ob.plain) (d1 : m.at 3 = some C) (d2 : C.cells = flatN cs) (d3 : C.obj = Ob.plain) => openTask_q (c := c) (c2 := c2) (c3 := c3) (c4 := c4) l ts ph cs hA rfl rfl f1 f2 rfl d1 d2 rfl hT (by decide) f3 d3
 have hlq := fun (m : Mem) (h : OpenT m 8 5 6 7 0 1 2 3 c c2 c3 c4 l ts ph cs) => least_q h hT n0 y hL (by decide)
 have hfq := fun (m : Mem) (h : OpenT m 8 5 6 7 0 1 2 3 c c2 c3 c4 l ts ph cs) (X : Blk) (x1 : m.at 9 = some X) (x2 : X.cells = flatN y) (x3 : X.obj = Ob.plain) => far_q (n := (edL ts).length) (cx := (edL ts).length) h y hT hyl (fun k hk => by have := hyb k hk; omega) R hW x1 x2 hyl (by decide) x3
 have hcq := fun (m : Mem) (h : OpenT m 8 5 6 7 0 1 2 3 c c2 c3 c4 l ts ph cs) (X : Blk) (x1 : m.at 9 = some X) (x2 : X.cells = flatN y) (x3 : X.obj = Ob.plain) => cost_q (n := (edL ts).length) (cx := (edL ts).length) h y (by omega) (fun k hk => ⟨hcb k (by omega), hyb k hk⟩) (by omega) x1 x2 hyl x3
 refine ACalls.en 25 Tryz.func63 rfl rfl (fun E hE => ?_)
 repeat' (first | with_reducible (refine Then.n ?_) | ((with_reducible refine AL.on ?_); first | ((first | refine AL.as ?_ | refine AL.mv ?_ | refine AL.et ?_ | ((with_reducible refine AL.k_load ?_); refine AL.g (OQ.loadN (ty := 67) (n := 4) rfl kr kr rfl) ?_) | ((with_reducible refine AL.k_binOp ?_); refine AL.g (OQ.neq rfl rfl) ?_)); refine AL.nm ?_) | ((refine AL.pcall (g := 86) rfl kr rfl ((by exact hcq _ ⟨⟨⟨_, rfl, rfl, rfl⟩, ⟨_, rfl, rfl, rfl⟩, ⟨_, rfl, rfl, rfl⟩, ⟨_, rfl⟩, ⟨_, rfl, rfl, rfl⟩⟩, ⟨_, rfl, rfl, rfl⟩, ⟨_, rfl, rfl, rfl⟩, ⟨_, rfl, rfl, rfl⟩⟩ _ rfl rfl rfl)) ?_); refine AL.nm ?_) | ((first | ((with_reducible refine AL.k_call ?_); first | refine AL.acall (g := 85) rfl kr rfl ((by exact hop _ ⟨⟨_, rfl, rfl, hz, rfl⟩, ⟨_, rfl, rfl, rfl⟩, by decide⟩ _ _ rfl rfl rfl rfl rfl rfl)) ?_ | refine AL.acall (g := 103) rfl kr rfl ((by exact hlq _ ⟨⟨⟨_, rfl, rfl, rfl⟩, ⟨_, rfl, rfl, rfl⟩, ⟨_, rfl, rfl, rfl⟩, ⟨_, rfl⟩, ⟨_, rfl, rfl, rfl⟩⟩, ⟨_, rfl, rfl, rfl⟩, ⟨_, rfl, rfl, rfl⟩, ⟨_, rfl, rfl, rfl⟩⟩)) ?_ | refine AL.acall (g := 104) rfl kr rfl ((by exact hfq _ ⟨⟨⟨_, rfl, rfl, rfl⟩, ⟨_, rfl, rfl, rfl⟩, ⟨_, rfl, rfl, rfl⟩, ⟨_, rfl⟩, ⟨_, rfl, rfl, rfl⟩⟩, ⟨_, rfl, rfl, rfl⟩, ⟨_, rfl, rfl, rfl⟩, ⟨_, rfl, rfl, rfl⟩⟩ _ rfl rfl rfl)) ?_) | refine AL.bx ?_); refine AL.nm ?_; refine AL.nM ?_) | refine AL.nil ?_) | ((with_reducible refine AW.on ?_); first | refine AW.seq ?_ | refine AW.skip ?_ | refine AW.ret ?_ | refine AW.region ?_ | (refine AW.conds rfl (fun hc => ?_) (fun hc => ?_) <;> (try replace hc := nc hc) <;> first | (exfalso; contradiction) | skip)) | ((with_reducible refine FinA.on ?_); (refine FinA.keep 4 [9, 10] (.inl rfl) (.tmp wl (.tmp wl (.tmp wl (.tmp wl .nil)))) ?_ rfl (Nat.le_of_eq hE) rfl rfl ⟨kl rfl (flatP_scal l), kl rfl (flatT_scal ts), kl rfl (flatN_scal _), kl rfl (flatN_scal _), kl rfl (flatN_scal _), kl rfl (flatN_scal _), trivial⟩; rfl)))
end Go.Proofs.YtmohcmghbfhdlaaGreat
end
end
/- Chapter 6: the corner. -/
section
set_option linter.unusedSimpArgs false
set_option linter.unusedVariables false
section
namespace Go.Me
open Go.Ab Go.Proofs.YtmohcmghbfhdlaaGreat
def l0 : List Pn := [⟨0, 0⟩, ⟨4, 0⟩, ⟨0, 4⟩]
def ts0 : List T3 := [(0, 1, 2)]
def ph0 : List Int := [0, 1500, -1500]
def cs0 : List Int := [5, 3, 9]
def xs0 : List Int := [0, 1, 0]
theorem sort_sorted {α : Type} {le : α → α → Bool} {l : List α} (h : l.Pairwise fun a b => le a b = true) : l.mergeSort le = l := List.mergeSort_of_pairwise h
theorem ed0 : edL ts0 = [⟨0, 1⟩, ⟨0, 2⟩, ⟨1, 2⟩] := by
 have h : eqS ts0 (List.range (lfA ts0).length) = [⟨0, 1⟩, ⟨1, 2⟩, ⟨0, 2⟩] := by kernel_rfl
 unfold edL
 rw [h, sortE_eq (ys := [⟨0, 1⟩, ⟨0, 2⟩, ⟨1, 2⟩]) (.cons _ (.swap _ _ _))]
 exact sort_sorted (by decide)
theorem cp0 : cpB l0 = 0 := by kernel_rfl
theorem tr0 : trK l0 ts0 0 = 0 := by kernel_rfl
theorem or0 : ordL l0 = [0, 2, 1] := by
 unfold ordL
 have h : (List.range l0.length) = [0, 1, 2] := by decide
 rw [h]
 simp [List.mergeSort, List.MergeSort.Internal.splitInTwo, List.merge, ordP, cmpI, l0, pt]
theorem hl0 : hl l0 = [0, 1, 2] := by
 unfold hl
 rw [or0]
 kernel_rfl
theorem net0 : netE l0 ts0 = 0 := by
 refine netE_0.2 ⟨cp0, by decide, fun j hj => ?_, by kernel_rfl, ?_⟩
 ·obtain rfl : j = 0 := by simp [ts0] at hj; omega
  exact tr0
 ·unfold gpB
  rw [hl0]
  kernel_rfl
theorem df0 : dfL ts0 ph0 = [1500, -1500, 1096] := by
 unfold dfL
 rw [ed0]
 kernel_rfl
theorem sm0 (xs : List Int) : smL ts0 xs 3 = [0 + nt xs 0 - nt xs 1 + nt xs 2] := by
 simp only [smL]
 rw [ed0]
 rfl
theorem cl0 : clL ts0 ph0 = [1] := by
 unfold clL sdL'
 rw [ed0, df0]
 show clK (smL ts0 [1500, -1500, 1096] 3) 1 = [1]
 rw [sm0]
 kernel_rfl
theorem ta0 : TaskR l0 ts0 ph0 cs0 := ⟨netE_0.1 net0, by kernel_rfl, by rw [ed0]; rfl, by kernel_rfl⟩
theorem tu0 : tuE ts0 ph0 xs0 = 0 := by
 refine (tu_0 (by rw [ed0]; rfl) (by kernel_rfl) fun j hj => ?_).1
 obtain rfl : j = 0 := by simp [ts0] at hj; omega
 unfold tuT
 rw [cl0, ed0]
 show nt (smL ts0 xs0 3) 0 + _ = 0
 rw [sm0]
 kernel_rfl
theorem fdr0 : FdR (dfL ts0 ph0) xs0 (edL ts0) (fd0 3 0) 3 1 := by
 rw [df0, ed0]
 exact ⟨by kernel_rfl, fun r hr => by
  obtain rfl : r = 0 := by omega
  decide⟩
theorem fdv0 : (fdN (dfL ts0 ph0) xs0 (edL ts0) (fd0 3 0) 1).1 = [0, 1500, 2596] := by
 rw [df0, ed0]
 kernel_rfl
end Go.Me
end
end
/- Chapter 6: the corner's turns of least cost. -/
section
set_option linter.unusedSimpArgs false
set_option linter.unusedVariables false
section
namespace Go.Me
open Go.Ab Go.Proofs.YtmohcmghbfhdlaaGreat
theorem wyR_of {rs : List Ac} {w : List (Int × Wy)} {R : Nat} (h1 : wyC rs w R = false) (h2 : ((List.range R).all fun r => wyC rs w r) = true)
  (h3 : ((List.range R).all fun r => (List.range (rs.length + 1)).all fun k => (wyK rs (wyN rs w r) k).1.all fun p => decide (-1000000000000 ≤ p.2.far ∧ p.2.far ≤ 1000000000000)) = true) : WyR rs w R :=
 ⟨h1, fun r hr => List.all_eq_true.1 h2 r (List.mem_range.2 hr), fun r k hr hk p hp => of_decide_eq_true (List.all_eq_true.1 (List.all_eq_true.1 (List.all_eq_true.1 h3 r (List.mem_range.2 hr)) k (List.mem_range.2 (by omega))) p hp)⟩
def rs0 : List Ac := [⟨0, -1, 0, 1, 5⟩, ⟨-1, 0, 0, -1, 5⟩, ⟨-1, 0, 1, 1, 3⟩, ⟨0, -1, 1, -1, 3⟩, ⟨0, -1, 2, 1, 9⟩, ⟨-1, 0, 2, -1, 9⟩]
def rs1 : List Ac := [⟨0, -1, 0, 1, 5⟩, ⟨-1, 0, 0, -1, 5⟩, ⟨-1, 0, 1, 1, 3⟩, ⟨0, -1, 1, -1, -3⟩, ⟨0, -1, 2, 1, 9⟩, ⟨-1, 0, 2, -1, 9⟩]
theorem ac00 : acL ts0 cs0 [0, 0, 0] 3 = rs0 := by
 simp only [acL, acP]
 rw [ed0]
 kernel_rfl
theorem ac01 : acL ts0 cs0 [0, 1, 0] 3 = rs1 := by
 simp only [acL, acP]
 rw [ed0]
 kernel_rfl
theorem wy00 : WyR rs0 (wyF [-1] 1) 2 := wyR_of (by kernel_rfl) (by kernel_rfl) (by kernel_rfl)
theorem wy01 : WyR rs1 (wyF [-1] 1) 2 := wyR_of (by kernel_rfl) (by kernel_rfl) (by kernel_rfl)
def w00 : List (Int × Wy) := [(-1, ⟨0, ⟨0, 0, 0, 0, 0⟩, true⟩), (0, ⟨3, ⟨-1, 0, 1, 1, 3⟩, false⟩)]
theorem wn00 : wyN rs0 (wyF [-1] 1) 2 = w00 := by kernel_rfl
theorem su0 : suK [1] 1 = [(0, -1), (-1, 1)] := by kernel_rfl
theorem fr0 : frK [(0, -1), (-1, 1)] 2 = [-1] := by kernel_rfl
theorem le0 : LeR ts0 cs0 1 (List.replicate (edL ts0).length 0) (suK (clL ts0 ph0) ts0.length) [0, 1, 0] := by
 rw [cl0, ed0]
 show LeR ts0 cs0 1 [0, 0, 0] (suK [1] 1) [0, 1, 0]
 rw [su0]
 have hf : frK [(0, -1), (-1, 1)] (ts0.length + 1) = [-1] := fr0
 have hw : wyN (acL ts0 cs0 [0, 0, 0] ([0, 0, 0] : List Int).length) (wyF (frK [(0, -1), (-1, 1)] (ts0.length + 1)) (frK [(0, -1), (-1, 1)] (ts0.length + 1)).length) 2 = w00 := by
  rw [hf]
  show wyN (acL ts0 cs0 [0, 0, 0] 3) (wyF [-1] 1) 2 = w00
  rw [ac00, wn00]
 have hs : ∀ i, getI [(0, -1), (-1, 1)] i = if i = 0 then -1 else if i = -1 then 1 else 0 := fun i => by
  unfold getI getL getL getL
  by_cases h : i = 0
  ·subst h; rfl
  ·rw [if_neg (fun h2 => h h2.symm), if_neg h]
   by_cases h3 : i = -1
   ·subst h3; rfl
   ·rw [if_neg (fun h2 => h3 h2.symm), if_neg h3]; rfl
 refine LeR.step (R := 2) (N := 1) (x' := [0, 1, 0]) (j := -1) (by rw [hf]; decide) (by decide) (fun i => by rw [hs]; split <;> (try split) <;> omega) ?_ ?_ ?_
 ·rw [hf]
  show WyR (acL ts0 cs0 [0, 0, 0] 3) (wyF [-1] 1) 2
  rw [ac00]
  exact wy00
 ·rw [hw]
  show PaR w00 1 [0, 0, 0] 0 [0, 1, 0] (-1)
  exact PaR.step (by kernel_rfl) (by decide) (by decide) (by decide) (by decide) (.done (by kernel_rfl))
 ·rw [hw]
  exact .done (by kernel_rfl)
theorem co0 : coL cs0 [0, 1, 0] 3 = 3 := by kernel_rfl
end Go.Me
end
end
/- Chapter 6: the examples' nets (the law's). -/
section
set_option linter.unusedSimpArgs false
set_option linter.unusedVariables false
section
namespace Go.Me
open Go.Ab Go.Proofs.YtmohcmghbfhdlaaGreat
def sqp : List Pn := [⟨0, 0⟩, ⟨4, 0⟩, ⟨4, 4⟩, ⟨0, 4⟩, ⟨1, 2⟩]
def sqt : List T3 := [(0, 1, 4), (0, 4, 3), (1, 2, 4), (2, 3, 4)]
end Go.Me
namespace Go.Proofs.YtmohcmghbfhdlaaGreat
open Go Go.RowKit Go.Ab Go.Me
set_option maxRecDepth 100000
set_option maxHeartbeats 4000000
attribute [local irreducible] OQ OW AL AW AF SW
theorem Square_y : ACalls Tryz.prog 62 [] [] (.agg #[.slice (some ⟨0, 0, none⟩) 5 5, .slice (some ⟨1, 0, none⟩) 4 4]) [some ⟨flatP sqp, true, 2⟩, some ⟨flatT sqt, true, 3⟩] := by
 refine ACalls.en 13 Tryz.func62 rfl rfl (fun E hE => ?_)
 repeat' (first | with_reducible (refine Then.n ?_) | ((with_reducible refine AL.on ?_); first | ((first | refine AL.g (OQ.buildS (ty := 65) (zs := [.int .i64 0, .int .i64 0]) (pls := [(0, 1), (1, 1)]) kr rfl kr rfl rfl rfl) ?_ | refine AL.g (OQ.buildA (ty := 62) (zs := [.int .i64 0, .int .i64 0, .int .i64 0]) (n := 1) (k := 3) (g := false) kr rfl kr rfl rfl rfl) ?_ | refine AL.g (OQ.buildS (ty := 25) (zs := [.slice none 0 0, .slice none 0 0]) (pls := [(0, 1), (1, 1)]) kr rfl kr rfl rfl rfl) ?_); refine AL.nm ?_) | ((first | ((with_reducible refine AL.k_buildSlice ?_); first | refine AL.w rfl (OW.buildSl (ty := 22) (zs := [.int .i64 0, .int .i64 0]) (n := 2) (g := true) kr kr rfl rfl rfl (by decide) (by decide) rfl rfl) ?_ | refine AL.w rfl (OW.buildSl (ty := 23) (zs := [.int .i64 0, .int .i64 0, .int .i64 0]) (n := 3) (g := true) kr kr rfl rfl rfl (by decide) (by decide) rfl rfl) ?_) | ((with_reducible refine AL.k_alloc ?_); refine AL.w rfl (OW.alloc (ty := 25) (z := [.slice none 0 0, .slice none 0 0]) kr rfl) ?_) | ((with_reducible refine AL.k_store ?_); (refine AL.w rfl (OW.store (ty := 25) (n := 2) rfl wl rfl rfl kr rfl rfl (by decide) rfl (Nat.le_of_ble_eq_true rfl) (by intro r h; cases h)) ?_))); refine AL.nm ?_; refine AL.nM ?_) | refine AL.nil ?_) | ((with_reducible refine AW.on ?_); first | refine AW.seq ?_ | refine AW.ret ?_ | refine AW.region ?_) | ((with_reducible refine FinA.on ?_); (refine FinA.keep 0 [1, 2] (.inl rfl) (.cellN (n := 2) wl kr kr rfl .nil) ?_ rfl (Nat.le_of_eq hE) rfl rfl ⟨kl rfl rfl, kl rfl rfl, trivial⟩; rfl)))
theorem Corner_y : ACalls Tryz.prog 64 [] [] (.agg #[.slice (some ⟨0, 0, none⟩) 3 3, .slice (some ⟨1, 0, none⟩) 1 1, .slice (some ⟨2, 0, none⟩) 3 3, .slice (some ⟨3, 0, none⟩) 3 3]) [some ⟨flatP l0, true, 2⟩, some ⟨flatT ts0, true, 3⟩, some ⟨flatN ph0, true, 1⟩, some ⟨flatN cs0, true, 1⟩] := by
 refine ACalls.en 11 Tryz.func64 rfl rfl (fun E hE => ?_)
 repeat' (first | with_reducible (refine Then.n ?_) | ((with_reducible refine AL.on ?_); first | ((first | refine AL.g (OQ.buildS (ty := 65) (zs := [.int .i64 0, .int .i64 0]) (pls := [(0, 1), (1, 1)]) kr rfl kr rfl rfl rfl) ?_ | refine AL.g (OQ.buildA (ty := 62) (zs := [.int .i64 0, .int .i64 0, .int .i64 0]) (n := 1) (k := 3) (g := false) kr rfl kr rfl rfl rfl) ?_ | refine AL.g (OQ.buildS (ty := 25) (zs := [.slice none 0 0, .slice none 0 0]) (pls := [(0, 1), (1, 1)]) kr rfl kr rfl rfl rfl) ?_ | refine AL.g (OQ.buildS (ty := 67) (zs := [.slice none 0 0, .slice none 0 0, .slice none 0 0, .slice none 0 0]) (pls := [(0, 2), (2, 1), (3, 1)]) kr rfl kr rfl rfl rfl) ?_); refine AL.nm ?_) | ((first | ((with_reducible refine AL.k_buildSlice ?_); first | refine AL.w rfl (OW.buildSl (ty := 22) (zs := [.int .i64 0, .int .i64 0]) (n := 2) (g := true) kr kr rfl rfl rfl (by decide) (by decide) rfl rfl) ?_ | refine AL.w rfl (OW.buildSl (ty := 23) (zs := [.int .i64 0, .int .i64 0, .int .i64 0]) (n := 3) (g := true) kr kr rfl rfl rfl (by decide) (by decide) rfl rfl) ?_ | refine AL.w rfl (OW.buildSl (ty := 26) (zs := [.int .i64 0]) (n := 1) (g := false) kr kr rfl rfl rfl (by decide) (by decide) rfl rfl) ?_) | ((with_reducible refine AL.k_alloc ?_); refine AL.w rfl (OW.alloc (ty := 67) (z := [.slice none 0 0, .slice none 0 0, .slice none 0 0, .slice none 0 0]) kr rfl) ?_) | ((with_reducible refine AL.k_store ?_); (refine AL.w rfl (OW.store (ty := 67) (n := 4) rfl wl rfl rfl kr rfl rfl (by decide) rfl (Nat.le_of_ble_eq_true rfl) (by intro r h; cases h)) ?_))); refine AL.nm ?_; refine AL.nM ?_) | refine AL.nil ?_) | ((with_reducible refine AW.on ?_); first | refine AW.seq ?_ | refine AW.ret ?_ | refine AW.region ?_) | ((with_reducible refine FinA.on ?_); (refine FinA.keep 0 [1, 2, 3, 4] (.inl rfl) (.cellN (n := 4) wl kr kr rfl .nil) ?_ rfl (Nat.le_of_eq hE) rfl rfl ⟨kl rfl rfl, kl rfl rfl, kl rfl rfl, kl rfl rfl, trivial⟩; rfl)))
end Go.Proofs.YtmohcmghbfhdlaaGreat
end
end
/- Chapter 6: the square's net, in plain numbers; the examples' nets in a greater memory. -/
section
set_option linter.unusedSimpArgs false
set_option linter.unusedVariables false
section
namespace Go.Me
open Go.Ab Go.Proofs.YtmohcmghbfhdlaaGreat
theorem cps : cpB sqp = 0 := by kernel_rfl
theorem ors : ordL sqp = [0, 3, 4, 1, 2] := by
 unfold ordL
 have h : (List.range sqp.length) = [0, 1, 2, 3, 4] := by decide
 rw [h]
 simp [List.mergeSort, List.MergeSort.Internal.splitInTwo, List.merge, ordP, cmpI, sqp, pt]
theorem hls : hl sqp = [0, 1, 2, 3] := by
 unfold hl
 rw [ors]
 kernel_rfl
theorem nets : NetR sqp sqt := by
 refine ⟨cps, by decide, fun j hj => ?_, by kernel_rfl, ?_⟩
 ·have h : ((List.range 4).all fun j => decide (trK sqp sqt j = 0)) = true := by kernel_rfl
  exact of_decide_eq_true (List.all_eq_true.1 h j (List.mem_range.2 hj))
 ·unfold gpB
  rw [hls]
  kernel_rfl
theorem eds : edL sqt = [⟨0, 1⟩, ⟨0, 3⟩, ⟨0, 4⟩, ⟨1, 2⟩, ⟨1, 4⟩, ⟨2, 3⟩, ⟨2, 4⟩, ⟨3, 4⟩] := by
 have h : (eqS sqt (List.range (lfA sqt).length)).isPerm [⟨0, 1⟩, ⟨0, 3⟩, ⟨0, 4⟩, ⟨1, 2⟩, ⟨1, 4⟩, ⟨2, 3⟩, ⟨2, 4⟩, ⟨3, 4⟩] = true := by kernel_rfl
 unfold edL
 rw [sortE_eq (List.isPerm_iff.1 h)]
 exact sort_sorted (by decide)
theorem sds : (sdL sqt).length = 8 ∧ pt (sdL sqt) 2 = ⟨1, 0⟩ := by
 unfold sdL
 rw [eds]
 exact ⟨rfl, by kernel_rfl⟩
theorem fks : flK sqp (sqp.length - 2) = false := by kernel_rfl
end Go.Me
namespace Go.Proofs.YtmohcmghbfhdlaaGreat
open Go Go.RowKit Go.Ab Go.Me
set_option maxRecDepth 100000
set_option maxHeartbeats 4000000
attribute [local irreducible] OQ OW AL AW AF SW
theorem Square_q (m : Mem) : ACalls Tryz.prog 62 [] m (.agg #[.slice (some ⟨m.length, 0, none⟩) 5 5, .slice (some ⟨m.length + 1, 0, none⟩) 4 4]) (m ++ [some ⟨flatP sqp, true, 2⟩, some ⟨flatT sqt, true, 3⟩]) := by
 have h := ACalls.viaS (m := m) (args := []) (v := .agg #[.slice (some ⟨m.length, 0, none⟩) 5 5, .slice (some ⟨m.length + 1, 0, none⟩) 4 4]) [] [] [some ⟨flatP sqp, true, 2⟩, some ⟨flatT sqt, true, 3⟩] Square_y trivial (by simp) ⟨⟨rfl, rfl, rfl, .inl ⟨rfl, rfl⟩⟩, ⟨rfl, rfl, rfl, .inl ⟨rfl, rfl⟩⟩, trivial⟩ rfl rfl rfl rfl
 exact h
theorem Corner_q (m : Mem) : ACalls Tryz.prog 64 [] m (.agg #[.slice (some ⟨m.length, 0, none⟩) 3 3, .slice (some ⟨m.length + 1, 0, none⟩) 1 1, .slice (some ⟨m.length + 2, 0, none⟩) 3 3, .slice (some ⟨m.length + 3, 0, none⟩) 3 3]) (m ++ [some ⟨flatP l0, true, 2⟩, some ⟨flatT ts0, true, 3⟩, some ⟨flatN ph0, true, 1⟩, some ⟨flatN cs0, true, 1⟩]) := by
 have h := ACalls.viaS (m := m) (args := []) (v := .agg #[.slice (some ⟨m.length, 0, none⟩) 3 3, .slice (some ⟨m.length + 1, 0, none⟩) 1 1, .slice (some ⟨m.length + 2, 0, none⟩) 3 3, .slice (some ⟨m.length + 3, 0, none⟩) 3 3]) [] [] [some ⟨flatP l0, true, 2⟩, some ⟨flatT ts0, true, 3⟩, some ⟨flatN ph0, true, 1⟩, some ⟨flatN cs0, true, 1⟩] Corner_y trivial (by simp) ⟨⟨rfl, rfl, rfl, .inl ⟨rfl, rfl⟩⟩, ⟨rfl, rfl, rfl, .inl ⟨rfl, rfl⟩⟩, ⟨rfl, rfl, rfl, .inl ⟨rfl, rfl⟩⟩, ⟨rfl, rfl, rfl, .inl ⟨rfl, rfl⟩⟩, trivial⟩ rfl rfl rfl rfl
 exact h
end Go.Proofs.YtmohcmghbfhdlaaGreat
end
end
/- Chapter 6: equal lists of numbers; Sides and Unwrap in a greater memory. -/
section
set_option linter.unusedSimpArgs false
set_option linter.unusedVariables false
section
namespace Go.Me
open Go.Ab Go.Proofs.YtmohcmghbfhdlaaGreat
theorem nts_eq {xs ys : List Int} (hl : xs.length = ys.length) (h : ∀ k, k < xs.length → nt xs k = nt ys k) : xs = ys := by
 refine List.ext_getElem hl fun i h1 h2 => ?_
 have := h i h1
 unfold nt at this
 rw [List.getD_eq_getElem?_getD, List.getD_eq_getElem?_getD, List.getElem?_eq_getElem h1, List.getElem?_eq_getElem h2] at this
 exact this
end Go.Me
namespace Go.Proofs.YtmohcmghbfhdlaaGreat
open Go Go.RowKit Go.Ab Go.Me
set_option maxRecDepth 100000
set_option maxHeartbeats 4000000
attribute [local irreducible] OQ OW AL AW AF SW
theorem Ints_0 (xs ys : List Int) (hl : xs.length ≤ 1000000) (c d z z1 : Nat) :
  PCalls Tryz.prog 20 [.slice (some ⟨0, 0, none⟩) xs.length c, .slice (some ⟨1, 0, none⟩) ys.length d] [some ⟨flatN xs, false, z⟩, some ⟨flatN ys, false, z1⟩] (.bool (decide (xs = ys))) := by
 have hgX : ∀ k, k < xs.length → (flatN xs)[k]? = some (.int .i64 (nt xs k)) := fun k hk => flatN_get _ k hk
 have hgY : ∀ k, k < ys.length → (flatN ys)[k]? = some (.int .i64 (nt ys k)) := fun k hk => flatN_get _ k hk
 have h1 : xs.length ≠ ys.length → decide (xs = ys) = false := fun h => decide_eq_false fun h2 => h (by rw [h2])
 have h2 : ∀ k, nt xs k ≠ nt ys k → decide (xs = ys) = false := fun k h => decide_eq_false fun h2 => h (by rw [h2])
 have h3 : xs.length = ys.length → (∀ j, j < xs.length → nt xs j = nt ys j) → decide (xs = ys) = true := fun h h2 => decide_eq_true (nts_eq h h2)
 generalize decide (xs = ys) = B0 at *
 refine PCalls.en 24 Tryz.func20 rfl (ro2p _ _ rfl rfl) rfl (fun E => ?_)
 repeat' (first | with_reducible (first | refine Then.n ?_ | refine Then.r ?_ | refine Then.x ?_ | refine InB.n ?_ | refine InB.r ?_ | refine InB.hit ?_) | ((with_reducible refine AL.on ?_); first | ((first | refine AL.mv ?_ | refine AL.as ?_ | ((with_reducible refine AL.k_binOp ?_); first | refine AL.g (OQ.neq rfl rfl) ?_ | refine AL.g (OQ.lss rfl rfl) ?_ | refine AL.g (OQ.addi rfl rfl (by omega)) ?_) | ((with_reducible refine AL.k_call ?_); refine AL.g (OQ.lenS (xt := 26) (r := (none, 1, false)) rfl kr) ?_)); refine AL.nm ?_) | refine AL.nil ?_) | ((with_reducible refine AW.on ?_); first | refine AW.seq ?_ | refine AW.skip ?_ | refine AW.exit ?_ | refine AW.ret ?_ | ((refine AW.block (id := 0) ?_); (refine AW.fk [0, 1, 5] ?_); (refine AW.loop (fun n' t' m => ∃ k : Nat, n' = xs.length - k ∧ k ≤ xs.length ∧ (∀ j, j < k → nt xs j = nt ys j) ∧ t' = (mtz 26 0 [(0, .slice (some ⟨0, 0, none⟩) xs.length c), (1, .slice (some ⟨1, 0, none⟩) ys.length d), (5, .int .i64 (k))]) ∧ m = [some ⟨flatN xs, false, z⟩, some ⟨flatN ys, false, z1⟩]) (xs.length) (by exact ⟨0, rfl, Nat.zero_le _, fun j h => absurd h (by omega), rfl, rfl⟩) ?_); (rintro n' t' m ⟨k, rfl, hk, hj, rfl, rfl⟩); (refine AW.nT ?_)) | refine AW.block ?_ | (refine AW.drawF (id := 6) 8 #[0, 0, 3, 7, 0, 0, 48, 112, 255] kr kr ?_; (conv => (arg 8; simp only [List.take_succ_cons, List.take_zero]))) | refine AW.region ?_ | (refine AW.conds rfl (fun hc => ?_) (fun hc => ?_) <;> (try replace hc := nc hc) <;> skip)) | ((with_reducible refine AF.on ?_); first | ((first | ((with_reducible refine AF.k_move ?_); (refine AF.q 0 (SW.q (OQ.move wl) rfl) ?_)) | ((with_reducible refine AF.k_indexAddr ?_); refine AF.q 0 (SW.q (OQ.idxAddr (ty := 26) (z := 1) (g := false) rfl rfl kr (by omega) (by omega)) rfl) ?_) | ((with_reducible refine AF.k_load ?_); (refine AF.ql rfl (SW.q (OQ.load1 (ty := 3) rfl kr (by (first | exact hgX k (by omega) | exact hgY k (by omega)))) rfl) ?_))); refine AF.nm ?_) | refine AF.nl ?_) | ((with_reducible refine ex_on ?_); (refine ⟨xs.length - (k + 1), _, _, by omega, ?_, k + 1, rfl, by omega, fun j h => (by rcases Nat.lt_or_eq_of_le (Nat.le_of_lt_succ h) with h | rfl; (exact hj j h); omega), rfl, rfl⟩; exact Wk.fk [0, 1, 5] rfl)) | ((with_reducible refine FinP.on ?_); (refine FinP.ret (.tmp wl .nil) ?_ rfl); (try simp only [pack, List.drop, List.take]); all_goals (first | (rw [h1 (by omega)]; done) | (rw [h2 k (by omega)]; done) | (obtain rfl : k = xs.length := (by omega); rw [h3 (by omega) hj]))))
theorem Ints_q {m : Mem} {b b' n n' c d : Nat} {X Y : Blk} (xs ys : List Int) (hl : xs.length ≤ 1000000) (x1 : m.at b = some X) (x2 : X.cells = flatN xs) (hn : xs.length = n) (y1 : m.at b' = some Y) (y2 : Y.cells = flatN ys) (hn' : ys.length = n') (x3 : X.obj = Ob.plain := by rfl) (y3 : Y.obj = Ob.plain := by rfl) :
  PCalls Tryz.prog 20 [.slice (some ⟨b, 0, none⟩) n c, .slice (some ⟨b', 0, none⟩) n' d] m (.bool (decide (xs = ys))) := by
 subst hn hn'
 exact PCalls.viaS [b, b'] (Ints_0 xs ys hl c d X.esz Y.esz) (ro2p _ _ rfl rfl) ⟨bS x1 x3 x2 (flatN_scal _), bS y1 y3 y2 (flatN_scal _), trivial⟩ rfl rfl rfl rfl
theorem Sides_q {m : Mem} {bP bT n k c c2 : Nat} (l : List Pn) (ts : List T3) (hA : ArgN m bP bT l ts) (hn : l.length = n) (hk : ts.length = k) (hR : NetR l ts) :
  ACalls Tryz.prog 28 [.agg #[.slice (some ⟨bP, 0, none⟩) n c, .slice (some ⟨bT, 0, none⟩) k c2]] m (.tuple #[.slice (some ⟨m.length, 0, none⟩) (sdL ts).length INF, .int .i64 0]) (m ++ [some ⟨flatP (sdL ts), true, 2⟩]) := by
 subst hn hk
 obtain ⟨⟨A, h1, h2, h3, h4⟩, ⟨B, h5, h6, h7⟩, hne⟩ := hA
 have h := ACalls.viaS (m := m) (args := [.agg #[.slice (some ⟨bP, 0, none⟩) l.length c, .slice (some ⟨bT, 0, none⟩) ts.length c2]]) (v := .tuple #[.slice (some ⟨m.length, 0, none⟩) (sdL ts).length INF, .int .i64 0]) [bP, bT] [] [some ⟨flatP (sdL ts), true, 2⟩] (Sides_y0 l ts c c2 A.esz B.esz h3 hR) ⟨bS h1 h4 h2 (flatP_scal _), bS h5 h7 h6 (flatT_scal _), trivial⟩ (by simpa using hne) ⟨⟨_, rfl, rfl⟩, ⟨_, rfl, rfl⟩, ⟨rfl, rfl, rfl, .inl ⟨rfl, flatP_scal _⟩⟩, trivial⟩ rfl rfl rfl rfl
 exact h
end Go.Proofs.YtmohcmghbfhdlaaGreat
end
end
/- Chapter 6: the law's examples (awake). -/
section
set_option linter.unusedSimpArgs false
set_option linter.unusedVariables false
section
namespace Go.Proofs.YtmohcmghbfhdlaaGreat
open Go Go.RowKit Go.Ab Go.Me
set_option maxRecDepth 100000
set_option maxHeartbeats 4000000
attribute [local irreducible] OQ OW AL AW AF SW
theorem Unwrap_q {m : Mem} {bP bT bF bC n k j i c c2 c3 c4 : Nat} {F C : Blk} (hA : ArgN m bP bT l0 ts0) (hn : 3 = n) (hk : 1 = k) (f1 : m.at bF = some F) (f2 : F.cells = flatN ph0) (hj : 3 = j) (c1 : m.at bC = some C) (c2' : C.cells = flatN cs0) (hi : 3 = i) (hd : [bP, bT, bF, bC].Nodup) (f3 : F.obj = Ob.plain := by rfl) (c3' : C.obj = Ob.plain := by rfl) :
  ACalls Tryz.prog 63 [.agg #[.slice (some ⟨bP, 0, none⟩) n c, .slice (some ⟨bT, 0, none⟩) k c2, .slice (some ⟨bF, 0, none⟩) j c3, .slice (some ⟨bC, 0, none⟩) i c4]] m (.tuple #[.slice (some ⟨m.length, 0, none⟩) 3 3, .slice (some ⟨m.length + 1, 0, none⟩) 1 INF, .int .i64 3, .int .i64 0]) (m ++ [some ⟨flatN [0, 1, 0], true, 1⟩, some ⟨flatN (faK (wyN rs1 (wyF [-1] 1) 2) 1), true, 1⟩]) := by
 subst hn hk hj hi
 obtain ⟨⟨A, a1, a2, h3, a3⟩, ⟨B, b1, b2, b3⟩, _⟩ := hA
 have h0 := Unwrap_y0 l0 ts0 ph0 cs0 ta0 1 [0, 1, 0] le0 (by decide) 2 (by show WyR (acL ts0 cs0 [0, 1, 0] 3) (wyF [-1] 1) 2; rw [ac01]; exact wy01) c c2 c3 c4 A.esz B.esz F.esz C.esz h3
 have hel : (edL ts0).length = 3 := by rw [ed0]; rfl
 rw [hel, co0] at h0
 have hac : acL ts0 cs0 [0, 1, 0] ([0, 1, 0] : List Int).length = rs1 := ac01
 rw [hac] at h0
 have h := ACalls.viaS (m := m) (args := [.agg #[.slice (some ⟨bP, 0, none⟩) 3 c, .slice (some ⟨bT, 0, none⟩) 1 c2, .slice (some ⟨bF, 0, none⟩) 3 c3, .slice (some ⟨bC, 0, none⟩) 3 c4]]) (v := .tuple #[.slice (some ⟨m.length, 0, none⟩) 3 3, .slice (some ⟨m.length + 1, 0, none⟩) 1 INF, .int .i64 3, .int .i64 0]) [bP, bT, bF, bC] [] [some ⟨flatN [0, 1, 0], true, 1⟩, some ⟨flatN (faK (wyN rs1 (wyF [-1] 1) 2) 1), true, 1⟩] h0
  ⟨bS a1 a3 a2 (flatP_scal _), bS b1 b3 b2 (flatT_scal _), bS f1 f3 f2 (flatN_scal _), bS c1 c3' c2' (flatN_scal _), trivial⟩ hd ⟨⟨_, rfl, rfl⟩, ⟨_, rfl, rfl⟩, ⟨_, rfl, rfl⟩, ⟨_, rfl, rfl⟩, ⟨rfl, rfl, rfl, .inl ⟨rfl, flatN_scal _⟩⟩, ⟨rfl, rfl, rfl, .inl ⟨rfl, flatN_scal _⟩⟩, trivial⟩ rfl rfl rfl rfl
 exact h
end Go.Proofs.YtmohcmghbfhdlaaGreat
end
end
/- Chapter 6: the law's examples, walked (awake). -/
section
set_option linter.unusedSimpArgs false
set_option linter.unusedVariables false
section
namespace Go.Proofs.YtmohcmghbfhdlaaGreat
open Go Go.RowKit Go.Ab Go.Me
set_option maxRecDepth 100000
set_option maxHeartbeats 4000000
theorem eqr_t52 (d : Nat) (w : World) (a0 a1 b0 b1 : Int) : (Op.equalIn (d + 2) 52 (.agg #[.int .i64 a0, .int .i64 a1]) (.agg #[.int .i64 b0, .int .i64 b1])).run Tryz.prog w = .ok (decide ((a0, a1) = (b0, b1))) w := by
 unfold Op.equalIn
 simp [Tryz.underlying52, run_underlying, go_sem, List.range', List.forIn_cons]
 by_cases h0 : a0 = b0
 case neg => simp [h0]
 by_cases h1 : a1 = b1
 case neg => simp [h0, h1]
 simp [h0, h1]
theorem eql_t52 {t : T} {m : Mem} {dst : Option Tmp} {rt ty' : TypeId} {pos : String} {after : Array Edge} {guard : Option (Nat × Bool)} {x y : Operand} {a0 a1 b0 b1 : Int} (hx : t.ev x = (.agg #[.int .i64 a0, .int .i64 a1])) (hy : t.ev y = (.agg #[.int .i64 b0, .int .i64 b1])) :
  OQ Tryz.prog ⟨dst, .binOp .eql 52 x y ty', rt, pos, after, guard⟩ t m (.bool (decide ((a0, a1) = (b0, b1)))) := by
 refine OQ.closed (fun cs b => by simp) (fun z hz => ?_) (fun w => ?_) rfl
 ·simp [Op.operands] at hz
  rcases hz with rfl | rfl
  ·rw [hx]; rfl
  ·rw [hy]; rfl
 ·have e := eqr_t52 9998 w a0 a1 b0 b1
  have hgt : (Tryz.prog).eqGuardType (Tryz.prog).depth 52 = false := by kernel_rfl
  have hg : (eqGuard .eql 52 x y (t.ev x) (t.ev y)).run Tryz.prog w = .ok () w := by
   rw [hx, hy]
   simp [eqGuard, program, Sem.run, Sem.run_bind, hgt]
  rw [hx, hy] at hg
  simp only [execOp, hx, hy, Sem.run_bind, hg, Result.andThen_ok, binOp, Op.equal, Op.maxDepth]
  erw [e]
  simp [go_sem]
theorem nel_t52 {t : T} {m : Mem} {dst : Option Tmp} {rt ty' : TypeId} {pos : String} {after : Array Edge} {guard : Option (Nat × Bool)} {x y : Operand} {a0 a1 b0 b1 : Int} (hx : t.ev x = (.agg #[.int .i64 a0, .int .i64 a1])) (hy : t.ev y = (.agg #[.int .i64 b0, .int .i64 b1])) :
  OQ Tryz.prog ⟨dst, .binOp .neq 52 x y ty', rt, pos, after, guard⟩ t m (.bool (!(decide ((a0, a1) = (b0, b1))))) := by
 refine OQ.closed (fun cs b => by simp) (fun z hz => ?_) (fun w => ?_) rfl
 ·simp [Op.operands] at hz
  rcases hz with rfl | rfl
  ·rw [hx]; rfl
  ·rw [hy]; rfl
 ·have e := eqr_t52 9998 w a0 a1 b0 b1
  have hgt : (Tryz.prog).eqGuardType (Tryz.prog).depth 52 = false := by kernel_rfl
  have hg : (eqGuard .neq 52 x y (t.ev x) (t.ev y)).run Tryz.prog w = .ok () w := by
   rw [hx, hy]
   simp [eqGuard, program, Sem.run, Sem.run_bind, hgt]
  rw [hx, hy] at hg
  simp only [execOp, hx, hy, Sem.run_bind, hg, Result.andThen_ok, binOp, Op.equal, Op.maxDepth]
  erw [e]
  simp [go_sem]
attribute [local irreducible] OQ OW AL AW AF SW
theorem Ints_t {m : Mem} {b b' n n' c d : Nat} {X Y : Blk} (xs : List Int) (hl : xs.length ≤ 1000000) (x1 : m.at b = some X) (x2 : X.cells = flatN xs) (hn : xs.length = n) (y1 : m.at b' = some Y) (y2 : Y.cells = flatN xs) (hn' : xs.length = n') (x3 : X.obj = Ob.plain := by rfl) (y3 : Y.obj = Ob.plain := by rfl) :
  PCalls Tryz.prog 20 [.slice (some ⟨b, 0, none⟩) n c, .slice (some ⟨b', 0, none⟩) n' d] m (.bool true) := by
 have h := Ints_q (m := m) (c := c) (d := d) xs xs hl x1 x2 hn y1 y2 hn' x3 y3
 rw [decide_eq_true rfl] at h
 exact h
theorem awake_0 : PCalls Tryz.prog 12 [] [] (.bool true) := by
 have hH := fun (m : Mem) (b : Nat) (blk : Blk) (h1 : m.at b = some blk) (h2 : blk.cells = flatP sqp) (h3 : blk.esz = 0 ∨ blk.esz = 2) (h4 : blk.obj = Ob.plain) => Hull_y (n := 5) (c := 5) sqp cps fks h1 h2 rfl h3 h4
 rw [hls] at hH
 have hS := fun (m : Mem) (bP bT : Nat) (hA : ArgN m bP bT sqp sqt) => Sides_q (n := 5) (k := 4) (c := 5) (c2 := 4) sqp sqt hA rfl rfl nets
 rw [sds.1] at hS
 have hsd : sdL sqt = [⟨0, -1⟩, ⟨-1, 1⟩, ⟨1, 0⟩, ⟨2, -1⟩, ⟨0, 2⟩, ⟨3, -1⟩, ⟨2, 3⟩, ⟨3, 1⟩] := by
  unfold sdL
  rw [eds]
  kernel_rfl
 rw [hsd] at hS
 have hU := fun (m : Mem) (bP bT bF bC : Nat) (F C : Blk) (hA : ArgN m bP bT l0 ts0) (f1 : m.at bF = some F) (f2 : F.cells = flatN ph0) (f3 : F.obj = Ob.plain) (c1 : m.at bC = some C) (c2 : C.cells = flatN cs0) (c3 : C.obj = Ob.plain) (hd : [bP, bT, bF, bC].Nodup) => Unwrap_q (c := 3) (c2 := 1) (c3 := 3) (c4 := 3) hA rfl rfl f1 f2 rfl c1 c2 rfl hd f3 c3
 have hD := fun (m : Mem) (b : Nat) (blk : Blk) (h1 : m.at b = some blk) (h2 : blk.cells = flatN [9, 12]) (h3 : blk.obj = Ob.plain) => Dispersion_q (n := 2) (c := 2) [9, 12] h1 h2 rfl (by decide) h3
 rw [dsV_9] at hD
 have hF := fun (m : Mem) (bP bT bF bX : Nat) (F X : Blk) (hA : ArgN m bP bT l0 ts0) (f1 : m.at bF = some F) (f2 : F.cells = flatN ph0) (f3 : F.obj = Ob.plain) (x1 : m.at bX = some X) (x2 : X.cells = flatN xs0) (x3 : X.obj = Ob.plain) (hd : [bP, bT, bF, bX].Nodup) => Field_y (n := 3) (k := 1) (j := 3) (i := 3) (c := 3) (c2 := 1) (c3 := 3) (c4 := 3) l0 ts0 ph0 xs0 hA rfl rfl f1 f2 rfl x1 x2 rfl (netE_0.1 net0) ta0.ph tu0 1 fdr0 (by decide) hd f3 x3
 have hfv : (fdN (dfL ts0 ph0) xs0 (edL ts0) (fd0 l0.length (nt ph0 0)) 1).1 = [0, 1500, 2596] := fdv0
 rw [hfv] at hF
 refine PCalls.en 94 Tryz.func12 rfl (ro_nil) rfl (fun E => ?_)
 repeat' (first | with_reducible (refine Then.n ?_) | ((with_reducible refine AL.on ?_); first | (refine AL.gd rfl ?_; (refine AL.gs1 rfl rfl (fun hc => ?_) (fun hc => ?_) <;> (try replace hc := nc hc) <;> first | (exfalso; contradiction) | refine AL.nm ?_)) | ((first | refine AL.mv ?_ | refine AL.as ?_ | ((with_reducible refine AL.k_call ?_); refine AL.g (OQ.lenS (xt := 45) (r := (none, 2, true)) rfl kr) ?_) | refine AL.et ?_ | refine AL.pT ?_ | ((with_reducible refine AL.k_binOp ?_); first | refine AL.g (OQ.eql rfl rfl) ?_ | refine AL.q rfl (eql_t52 rfl rfl) ?_) | ((with_reducible refine AL.k_field ?_); first | refine AL.g (OQ.field1 (ty := 25) (i := 0) (n := 1) (off := 0) rfl kr rfl) ?_ | refine AL.g (OQ.fieldL (ty := 67) (i := 0) (n := 2) (off := 0) rfl kr rfl) ?_ | refine AL.g (OQ.field1 (ty := 67) (i := 1) (n := 1) (off := 2) rfl kr rfl) ?_) | ((with_reducible refine AL.k_load ?_); refine AL.g (OQ.loadN (ty := 52) (n := 2) rfl kr kr rfl) ?_) | ((with_reducible refine AL.k_indexAddr ?_); refine AL.g (OQ.idxAddr (ty := 45) (z := 2) (g := true) rfl rfl kr (by omega) (by omega)) ?_)); refine AL.nm ?_) | ((first | ((with_reducible refine AL.k_call ?_); first | refine AL.pcall (g := 48) rfl kr rfl ((by exact hD _ _ _ rfl rfl rfl)) ?_ | refine AL.pcall (g := 20) rfl kr rfl ((by first | exact Ints_t [0, 1, 2, 3] (by decide) rfl rfl rfl rfl rfl rfl | exact Ints_t [0, 1500, 2596] (by decide) rfl rfl rfl rfl rfl rfl)) ?_) | ((with_reducible refine AL.k_build ?_); refine AL.g (OQ.buildA (ty := 52) (zs := [.int .i64 0, .int .i64 0]) (n := 1) (k := 2) (g := false) kr rfl kr rfl rfl rfl) ?_)); refine AL.nm ?_) | ((first | ((with_reducible refine AL.k_call ?_); first | refine AL.acall (g := 62) rfl kr rfl ((by exact Square_q _)) ?_ | refine AL.acall (g := 61) rfl kr rfl ((by exact hH _ _ _ rfl rfl (.inr rfl) rfl)) ?_ | refine AL.acall (g := 28) rfl kr rfl ((by exact hS _ _ _ ⟨⟨_, rfl, rfl, .inr rfl, rfl⟩, ⟨_, rfl, rfl, rfl⟩, by decide⟩)) ?_ | refine AL.acall (g := 64) rfl kr rfl ((by exact Corner_q _)) ?_ | refine AL.acall (g := 63) rfl kr rfl ((by exact hU _ _ _ _ _ _ _ ⟨⟨_, rfl, rfl, .inr rfl, rfl⟩, ⟨_, rfl, rfl, rfl⟩, by decide⟩ rfl rfl rfl rfl rfl rfl (by decide))) ?_ | refine AL.acall (g := 14) rfl kr rfl ((by exact hF _ _ _ _ _ _ _ ⟨⟨_, rfl, rfl, .inr rfl, rfl⟩, ⟨_, rfl, rfl, rfl⟩, by decide⟩ rfl rfl rfl rfl rfl rfl (by decide))) ?_) | ((with_reducible refine AL.k_buildSlice ?_); refine AL.w rfl (OW.buildSl (ty := 26) (zs := [.int .i64 0]) (n := 1) (g := false) kr kr rfl rfl rfl (by decide) (by decide) rfl rfl) ?_) | ((with_reducible refine AL.k_alloc ?_); refine AL.w rfl (OW.alloc (ty := 52) (z := [.int .i64 0, .int .i64 0]) kr rfl) ?_) | ((with_reducible refine AL.k_store ?_); (refine AL.w rfl (OW.store (ty := 52) (n := 2) rfl wl rfl rfl kr rfl rfl (by decide) rfl (Nat.le_of_ble_eq_true rfl) (by intro r h; cases h)) ?_))); refine AL.nm ?_; refine AL.nM ?_) | refine AL.nil ?_) | ((with_reducible refine AW.on ?_); first | refine AW.seq ?_ | refine AW.ret ?_ | refine AW.region ?_) | ((with_reducible refine FinP.on ?_); (refine FinP.ret (.tmp wl .nil) ?_ rfl); (try simp only [pack, List.drop, List.take]); all_goals (rfl)))
theorem awake_q (m : Mem) : PCalls Tryz.prog 12 [] m (.bool true) := PCalls.any awake_0 rfl rfl m
end Go.Proofs.YtmohcmghbfhdlaaGreat
end
end
