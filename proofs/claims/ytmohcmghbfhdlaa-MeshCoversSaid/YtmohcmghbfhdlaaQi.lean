/- Chapter 6: CheckNet, Edges, Sides (the program's). -/
import Derived.Test.YtmohcmghbfhdlaaQc
import Derived.Test.YtmohcmghbfhdlaaQh
section
set_option linter.unusedSimpArgs false
set_option linter.unusedVariables false
section
namespace Go.Me
open Go.Ab Go.Proofs.Ytmohcmghbfhdlaa
def sdP (ts : List T3) (e : Pn) : Pn := ⟨lk (lfA ts) (e.x, e.y), lk (lfA ts) (e.y, e.x)⟩
def sdL (ts : List T3) : List Pn := (edL ts).map (sdP ts)
theorem sdL_len (ts : List T3) : (sdL ts).length = (edL ts).length := List.length_map _
theorem sdL_pt {ts : List T3} {k : Nat} (h : k < (edL ts).length) : pt (sdL ts) k = sdP ts (pt (edL ts) k) := by
  unfold pt sdL
  rw [List.getD_eq_getElem?_getD, List.getD_eq_getElem?_getD, List.getElem?_map, List.getElem?_eq_getElem h]
  rfl
theorem edL_rng {l : List Pn} {ts : List T3} (h : LfOk l.length (lfA ts)) : ∀ e ∈ edL ts, (0 ≤ e.x ∧ e.x < l.length) ∧ (0 ≤ e.y ∧ e.y < l.length) := fun e he => by
  have h1 := (sortE_perm _).mem_iff.1 he
  unfold eqS at h1
  obtain ⟨j, _, h2⟩ := List.mem_flatMap.1 h1
  unfold pk at h2
  cases hq : (lfA ts)[j]? with
  | none => rw [hq] at h2; simp at h2
  | some p =>
    rw [hq] at h2
    have hr := h.rng p (List.mem_of_getElem? hq)
    simp only at h2
    unfold pkE at h2
    split at h2
    · rw [List.mem_singleton] at h2
      subst h2
      simp only
      split <;> split <;> omega
    · simp at h2
theorem edL_at {l : List Pn} {ts : List T3} (h : LfOk l.length (lfA ts)) (k : Nat) (hk : k < (edL ts).length) : (0 ≤ (pt (edL ts) k).x ∧ (pt (edL ts) k).x < l.length) ∧ (0 ≤ (pt (edL ts) k).y ∧ (pt (edL ts) k).y < l.length) := edL_rng h _ (pt_mem hk)
theorem edL_le (ts : List T3) : (edL ts).length ≤ 3 * ts.length := by
  unfold edL
  rw [sortE_len]
  have := eqS_le (ts := ts) (seen := List.range (lfA ts).length)
  rw [List.length_range] at this
  have h2 : (lfA ts).length = 3 * ts.length := lfA_len ts.length
  omega
theorem NetR.ok {l : List Pn} {ts : List T3} (h : NetR l ts) : LfOk l.length (lfA ts) := lf_ok ts.length h.all
end Go.Me
namespace Go.Proofs.Ytmohcmghbfhdlaa
open Go Go.RowKit Go.Ab Go.Me
set_option maxRecDepth 100000
set_option maxHeartbeats 4000000
attribute [local irreducible] OQ OW AL AW AD AF SW
structure OpenN (m : Mem) (bN bL bE bP bT : Nat) (c c2 : Nat) (l : List Pn) (ts : List T3) : Prop where
  P : ∃ A : Blk, m.at bP = some A ∧ A.cells = flatP l ∧ A.obj = Ob.plain
  T : ∃ B : Blk, m.at bT = some B ∧ B.cells = flatT ts ∧ B.obj = Ob.plain
  N : ∃ N : Blk, m.at bN = some N ∧ N.cells = [.slice (some ⟨bP, 0, none⟩) l.length c, .slice (some ⟨bT, 0, none⟩) ts.length c2, .slice (some ⟨bE, 0, none⟩) (edL ts).length INF, .map (some bL)] ∧ N.obj = Ob.plain
  L : ∃ own : Bool, m.at bL = some (mpX (lfA ts) own 0)
  E : ∃ D : Blk, m.at bE = some D ∧ D.cells = flatP (edL ts) ∧ D.obj = Ob.plain
theorem sides_0 (l : List Pn) (ts : List T3) (hR : NetR l ts) (c c2 z0 z1 z2 z4 i : Nat) (hi : i < (edL ts).length) :
    PCalls Try.prog 36 [.pointer (some ⟨2, 0, none⟩), .int .i64 i] [some ⟨flatP l, false, z0⟩, some ⟨flatT ts, false, z1⟩, some ⟨[.slice (some ⟨0, 0, none⟩) l.length c, .slice (some ⟨1, 0, none⟩) ts.length c2, .slice (some ⟨4, 0, none⟩) (edL ts).length INF, .map (some 3)], false, z2⟩, some (mpX (lfA ts) false 0), some ⟨flatP (edL ts), false, z4⟩] (.agg #[.int .i64 (sdP ts (pt (edL ts) i)).x, .int .i64 (sdP ts (pt (edL ts) i)).y]) := by
  have hL := hR.ok
  have h40 := (cp_ok hR.cp).1
  have hr := edL_at hL i hi
  have hle := edL_le ts
  have h80 := hR.le
  have hat : ∀ (a b : Int) (hab : okE (a, b)) (m : Mem) (A B N D : Blk) (own : Bool) (h1 : m.at 0 = some A) (h2 : A.cells = flatP l) (h3 : m.at 1 = some B) (h4 : B.cells = flatT ts) (h5 : m.at 2 = some N) (h6 : N.cells = [.slice (some ⟨0, 0, none⟩) l.length c, .slice (some ⟨1, 0, none⟩) ts.length c2, .slice (some ⟨4, 0, none⟩) (edL ts).length INF, .map (some 3)]) (h7 : m.at 3 = some (mpX (lfA ts) own 0)) (h8 : m.at 4 = some D) (h9 : D.cells = flatP (edL ts)) (o1 : A.obj = Ob.plain) (o2 : B.obj = Ob.plain) (o3 : N.obj = Ob.plain) (o4 : D.obj = Ob.plain), PCalls Try.prog 59 [.pointer (some ⟨2, 0, none⟩), .int .i64 a, .int .i64 b] m (.int .i64 (lk (lfA ts) (a, b))) := fun a b hab m A B N D own h1 h2 h3 h4 h5 h6 h7 h8 h9 o1 o2 o3 o4 => at_e l ts (edL ts) (lfA ts) hL.nd (hL.okE (by omega)) a b hab h1 h2 h3 h4 h5 h6 h7 rfl h8 h9 o1 o2 o3 o4
  unfold sdP
  refine PCalls.enter (t := [.pointer (some ⟨2, 0, none⟩), .int .i64 i, undef, undef, undef, undef, undef, undef, undef, undef, undef, undef, undef, undef, undef, undef, undef, undef, undef, undef, undef, undef, undef, undef, undef, undef]) Try.func36 rfl (ro5p _ _ _ _ _ rfl rfl rfl rfl rfl) rfl fun E => ?_
  repeat' (first
    | with_reducible (first | refine Then.n ?_ | refine Then.r ?_ | refine Then.x ?_ | refine InB.n ?_ | refine InB.r ?_ | refine InB.hit ?_ | refine InB.miss (by decide) ?_)
    | ((with_reducible refine AL.on ?_); first
      | ((first | ((with_reducible refine AL.k_load ?_); first | (refine AL.q rfl (OQ.load1 (ty := 42) rfl kr (by first | (exact flatP_ld rfl rfl _ (by omega)) | (conv => lhs; whnf))) ?_) | refine AL.q rfl (OQ.loadN (ty := 45) (n := 2) rfl kr kr (by first | (exact flatP_ld rfl rfl _ (by omega)) | rfl)) ?_) | ((with_reducible refine AL.k_move ?_); first | (refine AL.q rfl (OQ.move wl) ?_)) | refine AL.q rfl (OQ.nilCheck rfl) ?_); (refine AL.nm ?_))
      | ((first | ((with_reducible refine AL.k_indexAddr ?_); first | refine AL.q rfl (OQ.idxAddr (ty := 42) (z := 2) (g := true) rfl rfl kr (by first | omega | decide) (by first | omega | decide)) ?_) | ((with_reducible refine AL.k_call ?_); first | refine AL.pcall (g := 59) rfl kr rfl ((by exact hat _ _ ⟨⟨by omega, by omega⟩, by omega, by omega⟩ _ _ _ _ _ _ rfl rfl rfl rfl rfl rfl rfl rfl rfl rfl rfl rfl rfl)) ?_) | ((with_reducible refine AL.k_fieldAddr ?_); first | refine AL.q rfl (OQ.fieldA (ty := 74) (i := 1) (n := 1) (off := 2) (g := false) rfl kr (by decide)) ?_) | ((with_reducible refine AL.k_build ?_); first | refine AL.q rfl (OQ.buildA (ty := 45) (zs := [.int .i64 0, .int .i64 0]) (n := 1) (k := 2) (g := false) kr rfl kr rfl rfl rfl) ?_)); (refine AL.nm ?_))
      | ((first | ((with_reducible refine AL.k_alloc ?_); first | refine AL.w rfl (OW.alloc (ty := 45) (z := [.int .i64 0, .int .i64 0]) kr rfl) ?_) | ((with_reducible refine AL.k_store ?_); first | (refine AL.w rfl (OW.store (ty := 45) (n := 2) rfl wl rfl rfl kr rfl rfl (by decide) rfl (Nat.le_of_ble_eq_true rfl) (by intro r h; cases h)) ?_))); (refine AL.nm ?_); (refine AL.nM ?_))
      | refine AL.nil ?_)
    | ((with_reducible refine AW.on ?_); first
      | refine AW.seq ?_
      | refine AW.skip ?_
      | refine AW.exit ?_
      | refine AW.ret ?_
      | refine AW.block ?_
      | (refine AW.drawF (id := 2) 11 #[0, 0, 2, 0, 8, 31, 0, 0, 128, 0, 512, 2047, 4095, 8191] kr kr ?_; (conv => (arg 8; simp only [List.take_succ_cons, List.take_zero])))
      | refine AW.region ?_
      | (refine AW.conds rfl (fun hc => ?_) (fun hc => ?_) <;> (try replace hc := nc hc) <;> first | (exfalso; first | contradiction | (first | omega | (simp at hc; done)); done) | skip))
    | ((with_reducible refine AF.on ?_); first
      | ((first | ((with_reducible refine AF.k_load ?_); first | (refine AF.ql rfl (SW.q (OQ.load1 (ty := 3) rfl kr (by first | (exact flatP_ld rfl rfl _ (by omega)) | (conv => lhs; whnf))) rfl) ?_)) | ((with_reducible refine AF.k_indexAddr ?_); first | refine AF.q 0 (SW.q (OQ.idxPtr (ty := 45) (n := 1) (l := 2) (g := false) rfl rfl kr (by first | omega | decide) (by first | omega | decide)) rfl) ?_) | ((with_reducible refine AF.k_move ?_); first | (refine AF.q 0 (SW.q (OQ.move wl) rfl) ?_)) | ((with_reducible refine AF.k_call ?_); first | refine AF.q 2 (SW.pcall (g := 59) rfl kr rfl ((by exact hat _ _ ⟨⟨by omega, by omega⟩, by omega, by omega⟩ _ _ _ _ _ _ rfl rfl rfl rfl rfl rfl rfl rfl rfl rfl rfl rfl rfl)) rfl) ?_)); (conv => (arg 9; try tactic => exact nrmF)); (conv => (arg 11; try simp only [List.nil_append, List.cons_append])))
      | (refine AF.nil ?_ kr; (conv => (arg 4; simp only [List.drop_succ_cons, List.drop_zero, List.drop_nil]))))
    | ((with_reducible refine FinP.on ?_); (first | refine FinP.ret (.cellN (n := 2) wl kr kr rfl .nil) ?_ rfl | refine FinP.end (.cellN (n := 2) wl kr kr rfl .nil) ?_ rfl); (try simp only [pack, List.drop, List.take]); all_goals (rfl)))
theorem sides_q {m : Mem} {bN bL bE bP bT c c2 i : Nat} {l : List Pn} {ts : List T3} (h : OpenN m bN bL bE bP bT c c2 l ts) (hR : NetR l ts) (hi : i < (edL ts).length) :
    PCalls Try.prog 36 [.pointer (some ⟨bN, 0, none⟩), .int .i64 i] m (.agg #[.int .i64 (sdP ts (pt (edL ts) i)).x, .int .i64 (sdP ts (pt (edL ts) i)).y]) := by
  obtain ⟨⟨A, a1, a2, a3⟩, ⟨B, b1, b2, b3⟩, ⟨N, n1, n2, n3⟩, ⟨own, l1⟩, ⟨D, d1, d2, d3⟩⟩ := h
  exact PCalls.viaS [bP, bT, bN, bL, bE] (sides_0 l ts hR c c2 A.esz B.esz N.esz D.esz i hi) (ro5p _ _ _ _ _ rfl rfl rfl rfl rfl)
    ⟨⟨_, a1, by unfold Blk.shp Blk.shpR; rw [a3]; rfl, (fun h => nomatch h), .inl ⟨a2, flatP_scal _⟩⟩, ⟨_, b1, by unfold Blk.shp Blk.shpR; rw [b3]; rfl, (fun h => nomatch h), .inl ⟨b2, flatT_scal _⟩⟩, ⟨_, n1, by unfold Blk.shp Blk.shpR; rw [n3]; rfl, (fun h => nomatch h), .inr ⟨n2, rfl⟩⟩, ⟨_, l1, rfl, (fun h => nomatch h), .inl ⟨rfl, rfl⟩⟩, ⟨_, d1, by unfold Blk.shp Blk.shpR; rw [d3]; rfl, (fun h => nomatch h), .inl ⟨d2, flatP_scal _⟩⟩, trivial⟩ rfl rfl rfl rfl
end Go.Proofs.Ytmohcmghbfhdlaa
end
end
/- Chapter 6: CheckNet, Edges, Sides (the program's). -/
section
set_option linter.unusedSimpArgs false
set_option linter.unusedVariables false
section
namespace Go.Me
open Go.Ab Go.Proofs.Ytmohcmghbfhdlaa
theorem edL_pos {l : List Pn} {ts : List T3} (h : NetR l ts) : 0 < (edL ts).length := by
  have h1 : ts.length ≠ 0 := by
    have := h.gp
    unfold gpB at this
    rw [Bool.or_eq_false_iff, Bool.or_eq_false_iff, decide_eq_false_iff_not] at this
    exact this.1.1
  unfold edL
  rw [sortE_len]
  exact List.length_pos_iff.2 (eqS_pos h.all (by omega) (fun j hj => List.mem_range.2 hj))
theorem flatP_take {es : List Pn} {k : Nat} (h : k < es.length) : flatP (es.take k) ++ [.int .i64 (pt es k).x, .int .i64 (pt es k).y] = flatP (es.take (k + 1)) := by
  rw [List.take_add_one, List.getElem?_eq_getElem h, Option.toList_some, flatP_snoc]
  unfold pt
  rw [List.getD_eq_getElem?_getD, List.getElem?_eq_getElem h]
  rfl
end Go.Me
namespace Go.Proofs.Ytmohcmghbfhdlaa
open Go Go.RowKit Go.Ab Go.Me
set_option maxRecDepth 100000
set_option maxHeartbeats 4000000
attribute [local irreducible] OQ OW AL AW AD AF SW
theorem CheckNet_0 (l : List Pn) (ts : List T3) (c c2 z z1 : Nat) (hz : z = 0 ∨ z = 2) (hl : l.length ≤ 1000000) : PCalls Try.prog 15 [.agg #[.slice (some ⟨0, 0, none⟩) l.length c, .slice (some ⟨1, 0, none⟩) ts.length c2]] [some ⟨flatP l, false, z⟩, some ⟨flatT ts, false, z1⟩] (.tuple #[.int .i64 (netI l ts), .int .i64 (netE l ts)]) := by
  by_cases he : netE l ts = 0
  · have hy := fun (m : Mem) (hA : ArgN m 0 1 l ts) => open_y (c := c) (c2 := c2) l ts hA rfl rfl (netE_0.1 he)
    rw [he, netI_0 he]
    refine PCalls.enter (t := [.agg #[.slice (some ⟨0, 0, none⟩) l.length c, .slice (some ⟨1, 0, none⟩) ts.length c2], undef, undef, undef, undef, undef, undef, undef, undef, undef, undef, undef, undef, undef, undef]) Try.func15 rfl (ro2p _ _ rfl rfl) rfl fun E => ?_
    repeat' (first
      | with_reducible (first | refine Then.n ?_ | refine Then.r ?_ | refine Then.x ?_ | refine InB.n ?_ | refine InB.r ?_ | refine InB.hit ?_ | refine InB.miss (by decide) ?_)
      | ((with_reducible refine AL.on ?_); first
        | ((first | ((with_reducible refine AL.k_assign ?_); first | (refine AL.q rfl (OQ.assign wl) ?_)) | ((with_reducible refine AL.k_move ?_); first | (refine AL.q rfl (OQ.move wl) ?_)) | ((with_reducible refine AL.k_extract ?_); first | refine AL.q rfl (OQ.extract rfl rfl) ?_) | ((with_reducible refine AL.k_load ?_); first | refine AL.q rfl (OQ.loadN (ty := 38) (n := 2) rfl kr kr rfl) ?_)); (refine AL.nm ?_))
        | ((first | ((with_reducible refine AL.k_box ?_); first | (refine AL.w rfl (OW.box wl (by intro r h; cases h)) ?_)) | ((with_reducible refine AL.k_call ?_); first | refine AL.acall (g := 35) rfl kr rfl ((by exact hy _ ⟨⟨_, rfl, rfl, hz, rfl⟩, ⟨_, rfl, rfl, rfl⟩, by decide⟩)) ?_)); (refine AL.nm ?_); (refine AL.nM ?_))
        | refine AL.nil ?_)
      | ((with_reducible refine AW.on ?_); first
        | refine AW.seq ?_
        | refine AW.skip ?_
        | refine AW.exit ?_
        | refine AW.ret ?_
        | refine AW.block ?_
        | refine AW.region ?_
        | (refine AW.conds rfl (fun hc => ?_) (fun hc => ?_) <;> (try replace hc := nc hc) <;> first | (exfalso; first | contradiction | (first | omega | (simp at hc; done)); done) | skip))
      | ((with_reducible refine FinP.on ?_); (first | refine FinP.ret (.tmp wl (.tmp wl .nil)) ?_ rfl | refine FinP.end (.tmp wl (.tmp wl .nil)) ?_ rfl); (try simp only [pack, List.drop, List.take]); all_goals (rfl)))
  · have hy := fun (m : Mem) (hA : ArgN m 0 1 l ts) => open_e (c := c) (c2 := c2) l ts hA rfl rfl hl he
    generalize netE l ts = E0 at *
    generalize netI l ts = I0 at *
    refine PCalls.enter (t := [.agg #[.slice (some ⟨0, 0, none⟩) l.length c, .slice (some ⟨1, 0, none⟩) ts.length c2], undef, undef, undef, undef, undef, undef, undef, undef, undef, undef, undef, undef, undef, undef]) Try.func15 rfl (ro2p _ _ rfl rfl) rfl fun E => ?_
    repeat' (first
      | with_reducible (first | refine Then.n ?_ | refine Then.r ?_ | refine Then.x ?_ | refine InB.n ?_ | refine InB.r ?_ | refine InB.hit ?_ | refine InB.miss (by decide) ?_)
      | ((with_reducible refine AL.on ?_); first
        | ((first | ((with_reducible refine AL.k_assign ?_); first | (refine AL.q rfl (OQ.assign wl) ?_)) | ((with_reducible refine AL.k_move ?_); first | (refine AL.q rfl (OQ.move wl) ?_)) | ((with_reducible refine AL.k_extract ?_); first | refine AL.q rfl (OQ.extract rfl rfl) ?_) | ((with_reducible refine AL.k_load ?_); first | refine AL.q rfl (OQ.loadN (ty := 38) (n := 2) rfl kr kr rfl) ?_)); (refine AL.nm ?_))
        | ((first | first | refine AL.pcall (g := 35) rfl kr rfl ((by exact hy _ ⟨⟨_, rfl, rfl, hz, rfl⟩, ⟨_, rfl, rfl, rfl⟩, by decide⟩)) ?_); (refine AL.nm ?_))
        | ((first | first | (refine AL.w rfl (OW.box wl (by intro r h; cases h)) ?_)); (refine AL.nm ?_); (refine AL.nM ?_))
        | refine AL.nil ?_)
      | ((with_reducible refine AW.on ?_); first
        | refine AW.seq ?_
        | refine AW.skip ?_
        | refine AW.exit ?_
        | refine AW.ret ?_
        | refine AW.block ?_
        | refine AW.region ?_
        | (refine AW.conds rfl (fun hc => ?_) (fun hc => ?_) <;> (try replace hc := nc hc) <;> first | (exfalso; first | contradiction | (first | omega | (simp at hc; done)); done) | skip))
      | ((with_reducible refine FinP.on ?_); (first | refine FinP.ret (.tmp wl (.tmp wl .nil)) ?_ rfl | refine FinP.end (.tmp wl (.tmp wl .nil)) ?_ rfl); (try simp only [pack, List.drop, List.take]); all_goals (rfl)))
theorem CheckNet_q {m : Mem} {bP bT n k c c2 : Nat} (l : List Pn) (ts : List T3) (hA : ArgN m bP bT l ts) (hn : l.length = n) (hk : ts.length = k) (hl : l.length ≤ 1000000) :
    PCalls Try.prog 15 [.agg #[.slice (some ⟨bP, 0, none⟩) n c, .slice (some ⟨bT, 0, none⟩) k c2]] m (.tuple #[.int .i64 (netI l ts), .int .i64 (netE l ts)]) := by
  subst hn hk
  obtain ⟨⟨A, h1, h2, h3, h4⟩, ⟨B, h5, h6, h7⟩, _⟩ := hA
  exact PCalls.viaS [bP, bT] (CheckNet_0 l ts c c2 A.esz B.esz h3 hl) (ro2p _ _ rfl rfl) ⟨⟨_, h1, by unfold Blk.shp Blk.shpR; rw [h4]; rfl, (fun h => nomatch h), .inl ⟨h2, flatP_scal _⟩⟩, ⟨_, h5, by unfold Blk.shp Blk.shpR; rw [h7]; rfl, (fun h => nomatch h), .inl ⟨h6, flatT_scal _⟩⟩, trivial⟩ rfl rfl rfl rfl
theorem Edges_y0 (l : List Pn) (ts : List T3) (c c2 z z1 : Nat) (hz : z = 0 ∨ z = 2) (hR : NetR l ts) : ACalls Try.prog 17 [.agg #[.slice (some ⟨0, 0, none⟩) l.length c, .slice (some ⟨1, 0, none⟩) ts.length c2]] [some ⟨flatP l, false, z⟩, some ⟨flatT ts, false, z1⟩] (.tuple #[.slice (some ⟨2, 0, none⟩) (edL ts).length INF, .int .i64 0]) [some ⟨flatP l, false, z⟩, some ⟨flatT ts, false, z1⟩, some ⟨flatP (edL ts), true, 2⟩] := by
  have hy := fun (m : Mem) (hA : ArgN m 0 1 l ts) => open_y (c := c) (c2 := c2) l ts hA rfl rfl hR
  refine ACalls.enter (t := [.agg #[.slice (some ⟨0, 0, none⟩) l.length c, .slice (some ⟨1, 0, none⟩) ts.length c2], undef, undef, undef, undef, undef, undef, undef, undef, undef, undef, undef, undef, undef, undef, undef, undef, undef, undef, undef]) Try.func17 rfl rfl fun E hE => ?_
  repeat' (first
    | with_reducible (first | refine Then.n ?_ | refine Then.r ?_ | refine Then.x ?_ | refine InB.n ?_ | refine InB.r ?_ | refine InB.hit ?_ | refine InB.miss (by decide) ?_)
    | ((with_reducible refine AL.on ?_); first
      | ((first | ((with_reducible refine AL.k_assign ?_); first | (refine AL.q rfl (OQ.assign wl) ?_)) | ((with_reducible refine AL.k_move ?_); first | (refine AL.q rfl (OQ.move wl) ?_)) | ((with_reducible refine AL.k_extract ?_); first | refine AL.q rfl (OQ.extract rfl rfl) ?_) | ((with_reducible refine AL.k_load ?_); first | refine AL.q rfl (OQ.loadN (ty := 38) (n := 2) rfl kr kr rfl) ?_ | (refine AL.q rfl (OQ.load1 (ty := 42) rfl kr wl) ?_)) | ((with_reducible refine AL.k_binOp ?_); first | refine AL.q rfl (OQ.neq rfl rfl) ?_) | ((with_reducible refine AL.k_fieldAddr ?_); first | refine AL.q rfl (OQ.fieldA (ty := 74) (i := 1) (n := 1) (off := 2) (g := false) rfl kr (by decide)) ?_) | refine AL.q rfl (OQ.nilCheck rfl) ?_); (refine AL.nm ?_))
      | ((first | ((with_reducible refine AL.k_box ?_); first | (refine AL.w rfl (OW.box wl (by intro r h; cases h)) ?_)) | ((with_reducible refine AL.k_call ?_); first | refine AL.acall (g := 35) rfl kr rfl ((by exact hy _ ⟨⟨_, rfl, rfl, hz, rfl⟩, ⟨_, rfl, rfl, rfl⟩, by decide⟩)) ?_)); (refine AL.nm ?_); (refine AL.nM ?_))
      | refine AL.nil ?_)
    | ((with_reducible refine AW.on ?_); first
      | refine AW.seq ?_
      | refine AW.skip ?_
      | refine AW.exit ?_
      | refine AW.ret ?_
      | refine AW.block ?_
      | refine AW.region ?_
      | (refine AW.conds rfl (fun hc => ?_) (fun hc => ?_) <;> (try replace hc := nc hc) <;> first | (exfalso; first | contradiction | (first | omega | (simp at hc; done)); done) | skip))
    | ((with_reducible refine FinA.on ?_); (refine FinA.keep 2 [5] (.inl rfl) (.tmp wl (.tmp wl .nil)) ?_ rfl (Nat.le_of_eq hE) rfl rfl ⟨⟨_, rfl, rfl, rfl, .inl ⟨rfl, flatP_scal l⟩⟩, ⟨_, rfl, rfl, rfl, .inl ⟨rfl, flatT_scal ts⟩⟩, ⟨_, rfl, rfl, rfl, .inl ⟨rfl, flatP_scal _⟩⟩, trivial⟩; rfl)))
theorem Sides_y0 (l : List Pn) (ts : List T3) (c c2 z z1 : Nat) (hz : z = 0 ∨ z = 2) (hR : NetR l ts) : ACalls Try.prog 18 [.agg #[.slice (some ⟨0, 0, none⟩) l.length c, .slice (some ⟨1, 0, none⟩) ts.length c2]] [some ⟨flatP l, false, z⟩, some ⟨flatT ts, false, z1⟩] (.tuple #[.slice (some ⟨2, 0, none⟩) (sdL ts).length INF, .int .i64 0]) [some ⟨flatP l, false, z⟩, some ⟨flatT ts, false, z1⟩, some ⟨flatP (sdL ts), true, 2⟩] := by
  have hy := fun (m : Mem) (hA : ArgN m 0 1 l ts) => open_y (c := c) (c2 := c2) l ts hA rfl rfl hR
  have hs := fun (m : Mem) (i : Nat) (h : OpenN m 3 4 5 0 1 c c2 l ts) (hi : i < (edL ts).length) => sides_q (i := i) h hR hi
  have hps := fun (i : Nat) (hi : i < (edL ts).length) => sdL_pt (ts := ts) hi
  have hpos := edL_pos hR
  have hle := edL_le ts
  have h80 := hR.le
  rw [sdL_len]
  have hft := fun (k : Nat) (hk : k < (edL ts).length) => flatP_take (es := sdL ts) (k := k) (by rw [sdL_len]; exact hk)
  have hfl : ∀ k, k ≤ (edL ts).length → (flatP ((sdL ts).take k)).length = k * 2 := fun k hk => by rw [flatP_len, List.length_take, sdL_len, Nat.min_eq_left hk]
  have htl : (sdL ts).take (edL ts).length = sdL ts := by rw [← sdL_len, List.take_length]
  refine ACalls.enter (t := [.agg #[.slice (some ⟨0, 0, none⟩) l.length c, .slice (some ⟨1, 0, none⟩) ts.length c2], undef, undef, undef, undef, undef, undef, undef, undef, undef, undef, undef, undef, undef, undef, undef, undef, undef, undef, undef, undef, undef, undef, undef, undef, undef, undef, undef, undef, undef, undef, undef, undef, undef]) Try.func18 rfl rfl fun E hE => ?_
  repeat' (first
    | with_reducible (first | refine Then.n ?_ | refine Then.r ?_ | refine Then.x ?_ | refine InB.n ?_ | refine InB.r ?_ | refine InB.hit ?_ | refine InB.miss (by decide) ?_)
    | ((with_reducible refine AL.on ?_); first
      | ((first | ((with_reducible refine AL.k_assign ?_); first | (refine AL.q rfl (OQ.assign wl) ?_)) | ((with_reducible refine AL.k_move ?_); first | (refine AL.q rfl (OQ.move wl) ?_)) | ((with_reducible refine AL.k_call ?_); first | refine AL.q rfl (OQ.lenS (xt := 42) (r := (none, 2, true)) rfl kr) ?_) | ((with_reducible refine AL.k_extract ?_); first | refine AL.q rfl (OQ.extract rfl rfl) ?_) | ((with_reducible refine AL.k_binOp ?_); first | refine AL.q rfl (OQ.neq rfl rfl) ?_ | refine AL.q rfl (OQ.lss rfl rfl) ?_ | refine AL.q rfl (OQ.addi rfl rfl (by omega)) ?_ | refine AL.q rfl (OQ.add rfl rfl) ?_) | ((with_reducible refine AL.k_load ?_); first | refine AL.q rfl (OQ.loadN (ty := 38) (n := 2) rfl kr kr rfl) ?_ | (refine AL.q rfl (OQ.load1 (ty := 42) rfl kr wl) ?_)) | ((with_reducible refine AL.k_fieldAddr ?_); first | refine AL.q rfl (OQ.fieldA (ty := 74) (i := 1) (n := 1) (off := 2) (g := false) rfl kr (by decide)) ?_) | refine AL.q rfl (OQ.nilCheck rfl) ?_); (refine AL.nm ?_))
      | ((first | first | refine AL.pcall (g := 36) rfl kr rfl ((by exact hs _ k ⟨⟨_, rfl, rfl, rfl⟩, ⟨_, rfl, rfl, rfl⟩, ⟨_, rfl, rfl, rfl⟩, ⟨_, rfl⟩, ⟨_, rfl, rfl, rfl⟩⟩ (by omega))) ?_); (refine AL.nm ?_))
      | ((first | ((with_reducible refine AL.k_call ?_); first | refine AL.acall (g := 35) rfl kr rfl ((by exact hy _ ⟨⟨_, rfl, rfl, hz, rfl⟩, ⟨_, rfl, rfl, rfl⟩, by decide⟩)) ?_ | refine AL.w rfl (by first | exact OW.appendNil (e := 45) (z := 2) (zs := [.int .i64 0, .int .i64 0]) (by' := 16) rfl rfl kr kr kr rfl kr (by decide) rfl (by decide) (by decide) | exact OW.appendL (e := 45) (z := 2) (zs := [.int .i64 0, .int .i64 0]) (by' := 16) rfl rfl kr kr kr rfl kr (by decide) rfl rfl rfl (by decide) (by exact hfl k (by omega)) rfl rfl (by omega) (by omega)) ?_) | ((with_reducible refine AL.k_box ?_); first | (refine AL.w rfl (OW.box wl (by intro r h; cases h)) ?_)) | ((with_reducible refine AL.k_buildSlice ?_); first | refine AL.w rfl (OW.buildSl (ty := 42) (zs := [.int .i64 0, .int .i64 0]) (n := 2) (g := true) kr kr rfl rfl rfl (by decide) (by decide) rfl rfl) ?_)); (refine AL.nm ?_); (refine AL.nM ?_))
      | refine AL.nil ?_)
    | ((with_reducible refine AW.on ?_); first
      | refine AW.seq ?_
      | refine AW.skip ?_
      | refine AW.exit ?_
      | refine AW.ret ?_
      | ((refine AW.block (id := 0) ?_); (refine AW.fk [4, 7, 22, 23] ?_); (refine AW.loop (fun n' t' m => ∃ k : Nat, n' = (edL ts).length - k ∧ k ≤ (edL ts).length ∧ ((k = 0 ∧ t' = [jk, jk, jk, jk, .pointer (some ⟨3, 0, none⟩), jk, jk, .slice none 0 0, jk, jk, jk, jk, jk, jk, jk, jk, jk, jk, jk, jk, jk, jk, .int .i64 ((edL ts).length), .int .i64 (k), jk, jk, jk, jk, jk, jk, jk, jk, jk, jk] ∧ m = [some ⟨flatP l, false, z⟩, some ⟨flatT ts, false, z1⟩, some ⟨[.slice (some ⟨0, 0, none⟩) l.length c, .slice (some ⟨1, 0, none⟩) ts.length c2], true, 0⟩, some ⟨[.slice (some ⟨0, 0, none⟩) l.length c, .slice (some ⟨1, 0, none⟩) ts.length c2, .slice (some ⟨5, 0, none⟩) (edL ts).length INF, .map (some 4)], true, 0⟩, some (mpX (lfA ts) true 0), some ⟨flatP (edL ts), true, 2⟩]) ∨ (0 < k ∧ t' = [jk, jk, jk, jk, .pointer (some ⟨3, 0, none⟩), jk, jk, .slice (some ⟨6, 0, none⟩) (k) INF, jk, jk, jk, jk, jk, jk, jk, jk, jk, jk, jk, jk, jk, jk, .int .i64 ((edL ts).length), .int .i64 (k), jk, jk, jk, jk, jk, jk, jk, jk, jk, jk] ∧ m = [some ⟨flatP l, false, z⟩, some ⟨flatT ts, false, z1⟩, some ⟨[.slice (some ⟨0, 0, none⟩) l.length c, .slice (some ⟨1, 0, none⟩) ts.length c2], true, 0⟩, some ⟨[.slice (some ⟨0, 0, none⟩) l.length c, .slice (some ⟨1, 0, none⟩) ts.length c2, .slice (some ⟨5, 0, none⟩) (edL ts).length INF, .map (some 4)], true, 0⟩, some (mpX (lfA ts) true 0), some ⟨flatP (edL ts), true, 2⟩, some ⟨flatP ((sdL ts).take k), true, 2⟩]))) ((edL ts).length) (by exact ⟨0, rfl, Nat.zero_le _, .inl ⟨rfl, rfl, rfl⟩⟩) ?_); (rintro n' t' m ⟨k, rfl, hk, (⟨hk0, rfl, rfl⟩ | ⟨hk1, rfl, rfl⟩)⟩))
      | refine AW.block ?_
      | refine AW.region ?_
      | (refine AW.conds rfl (fun hc => ?_) (fun hc => ?_) <;> (try replace hc := nc hc) <;> first | (exfalso; first | contradiction | (first | omega | (simp at hc; done)); done) | skip))
    | ((with_reducible refine ex_on ?_); first | (obtain rfl := hk0; have hf0 := hft 0 (by omega); rw [hps 0 (by omega)] at hf0; refine ⟨(edL ts).length - 1, [jk, jk, jk, jk, .pointer (some ⟨3, 0, none⟩), jk, jk, .slice (some ⟨6, 0, none⟩) (1) INF, jk, jk, jk, jk, jk, jk, jk, jk, jk, jk, jk, jk, jk, jk, .int .i64 ((edL ts).length), .int .i64 (((0 + 1 : Nat) : Int)), jk, jk, jk, jk, jk, jk, jk, jk, jk, jk], [some ⟨flatP l, false, z⟩, some ⟨flatT ts, false, z1⟩, some ⟨[.slice (some ⟨0, 0, none⟩) l.length c, .slice (some ⟨1, 0, none⟩) ts.length c2], true, 0⟩, some ⟨[.slice (some ⟨0, 0, none⟩) l.length c, .slice (some ⟨1, 0, none⟩) ts.length c2, .slice (some ⟨5, 0, none⟩) (edL ts).length INF, .map (some 4)], true, 0⟩, some (mpX (lfA ts) true 0), some ⟨flatP (edL ts), true, 2⟩, some ⟨[.int .i64 (sdP ts (pt (edL ts) 0)).x, .int .i64 (sdP ts (pt (edL ts) 0)).y], true, 2⟩], by omega, ?_, 0 + 1, rfl, by omega, .inr ⟨by omega, rfl, by rw [← hf0]; rfl⟩⟩; exact Wk.keep 6 [7] (by rw [hE]; exact Nat.le_of_ble_eq_true rfl) rfl rfl (by repeat (first | exact RenT.nil | refine RenT.jk ?_ | refine RenT.val (by first | rfl | with_reducible assumption | (simp only [rn3, rn2, rn1, kσ]; done)) (by first | rfl | assumption | (simp [ok3, ok2, ok1]; done)) ?_)) ⟨⟨_, rfl, rfl, rfl, .inl ⟨rfl, flatP_scal l⟩⟩, ⟨_, rfl, rfl, rfl, .inl ⟨rfl, flatT_scal ts⟩⟩, ⟨_, rfl, rfl, rfl, .inr ⟨rfl, rfl⟩⟩, ⟨_, rfl, rfl, rfl, .inr ⟨rfl, rfl⟩⟩, ⟨_, rfl, rfl, rfl, .inl ⟨rfl, rfl⟩⟩, ⟨_, rfl, rfl, rfl, .inl ⟨rfl, flatP_scal _⟩⟩, ⟨_, rfl, rfl, rfl, .inl ⟨rfl, rfl⟩⟩, trivial⟩) | (have hf0 := hft k (by omega); rw [hps k (by omega)] at hf0; refine ⟨(edL ts).length - (k + 1), [jk, jk, jk, jk, .pointer (some ⟨3, 0, none⟩), jk, jk, .slice (some ⟨6, 0, none⟩) (k + 1) INF, jk, jk, jk, jk, jk, jk, jk, jk, jk, jk, jk, jk, jk, jk, .int .i64 ((edL ts).length), .int .i64 (((k + 1 : Nat) : Int)), jk, jk, jk, jk, jk, jk, jk, jk, jk, jk], [some ⟨flatP l, false, z⟩, some ⟨flatT ts, false, z1⟩, some ⟨[.slice (some ⟨0, 0, none⟩) l.length c, .slice (some ⟨1, 0, none⟩) ts.length c2], true, 0⟩, some ⟨[.slice (some ⟨0, 0, none⟩) l.length c, .slice (some ⟨1, 0, none⟩) ts.length c2, .slice (some ⟨5, 0, none⟩) (edL ts).length INF, .map (some 4)], true, 0⟩, some (mpX (lfA ts) true 0), some ⟨flatP (edL ts), true, 2⟩, some ⟨flatP ((sdL ts).take k) ++ [.int .i64 (sdP ts (pt (edL ts) k)).x, .int .i64 (sdP ts (pt (edL ts) k)).y], true, 2⟩], by omega, ?_, k + 1, rfl, by omega, .inr ⟨by omega, rfl, by rw [← hf0]⟩⟩; exact Wk.keep 6 [8] (by rw [hE]; exact Nat.le_of_ble_eq_true rfl) rfl rfl (by repeat (first | exact RenT.nil | refine RenT.jk ?_ | refine RenT.val (by first | rfl | with_reducible assumption | (simp only [rn3, rn2, rn1, kσ]; done)) (by first | rfl | assumption | (simp [ok3, ok2, ok1]; done)) ?_)) ⟨⟨_, rfl, rfl, rfl, .inl ⟨rfl, flatP_scal l⟩⟩, ⟨_, rfl, rfl, rfl, .inl ⟨rfl, flatT_scal ts⟩⟩, ⟨_, rfl, rfl, rfl, .inr ⟨rfl, rfl⟩⟩, ⟨_, rfl, rfl, rfl, .inr ⟨rfl, rfl⟩⟩, ⟨_, rfl, rfl, rfl, .inl ⟨rfl, rfl⟩⟩, ⟨_, rfl, rfl, rfl, .inl ⟨rfl, flatP_scal _⟩⟩, ⟨_, rfl, rfl, rfl, .inl ⟨rfl, by rw [List.all_append, flatP_scal]; rfl⟩⟩, trivial⟩))
    | ((with_reducible refine FinA.on ?_); (obtain rfl : k = (edL ts).length := (by omega); rw [htl]; refine FinA.keep 2 [6] (.inl rfl) (.tmp wl (.tmp wl .nil)) ?_ rfl (Nat.le_of_eq hE) rfl rfl ⟨⟨_, rfl, rfl, rfl, .inl ⟨rfl, flatP_scal l⟩⟩, ⟨_, rfl, rfl, rfl, .inl ⟨rfl, flatT_scal ts⟩⟩, ⟨_, rfl, rfl, rfl, .inl ⟨rfl, flatP_scal _⟩⟩, trivial⟩; rfl)))
end Go.Proofs.Ytmohcmghbfhdlaa
end
end
/- Chapter 6: phases of a net; differences (the program's). -/
section
set_option linter.unusedSimpArgs false
set_option linter.unusedVariables false
section
namespace Go.Me
open Go.Ab Go.Proofs.Ytmohcmghbfhdlaa
theorem flatN_snoc (xs : List Int) (x : Int) : flatN xs ++ [.int .i64 x] = flatN (xs ++ [x]) := by
  unfold flatN
  rw [List.map_append]
  rfl
theorem flatN_len (xs : List Int) : (flatN xs).length = xs.length := List.length_map _
theorem flatN_take {xs : List Int} {k : Nat} (h : k < xs.length) : flatN (xs.take k) ++ [.int .i64 (nt xs k)] = flatN (xs.take (k + 1)) := by
  rw [List.take_add_one, List.getElem?_eq_getElem h, Option.toList_some, flatN_snoc]
  unfold nt
  rw [List.getD_eq_getElem?_getD, List.getElem?_eq_getElem h]
  rfl
def ixB (p : Int → Bool) (xs : List Int) : Int := fstN (fun j => if p (nt xs j) = true then 1 else 0) xs.length
theorem ixB_any (p : Int → Bool) (xs : List Int) : decide (0 ≤ ixB p xs) = xs.any p := by
  unfold ixB
  rcases fst_cases (fun j => if p (nt xs j) = true then 1 else 0) xs.length with h | ⟨i, h1, h2, h3⟩
  · rw [fstN_no _ h]
    symm
    show _ = false
    rw [List.any_eq_false]
    intro x hx hp
    obtain ⟨j, hj, rfl⟩ := List.getElem_of_mem hx
    have this : (if p (nt xs j) = true then (1 : Int) else 0) = 0 := h j hj
    have e : nt xs j = xs[j] := by unfold nt; rw [List.getD_eq_getElem?_getD, List.getElem?_eq_getElem hj]; rfl
    rw [e, hp] at this
    cases this
  · rw [fstN_yes h2 h3 _ h1]
    have e : nt xs i = xs[i] := by unfold nt; rw [List.getD_eq_getElem?_getD, List.getElem?_eq_getElem h1]; rfl
    rw [decide_eq_true (by omega)]
    symm
    rw [List.any_eq_true]
    refine ⟨xs[i], List.getElem_mem _, ?_⟩
    replace h3 : (if p (nt xs i) = true then (1 : Int) else 0) ≠ 0 := h3
    rw [e] at h3
    cases hp : p xs[i] with
    | true => rfl
    | false => rw [hp] at h3; exact absurd rfl h3
def phE (l : List Pn) (ph : List Int) : Int := if ph.length ≠ l.length then 10 else if ph.any (fun x => !rgB x (-2048) 2047) = true then 2 else 0
theorem phE_0 {l : List Pn} {ph : List Int} (h : phE l ph = 0) : ph.length = l.length ∧ ∀ k, k < ph.length → -2048 ≤ nt ph k ∧ nt ph k ≤ 2047 := by
  unfold phE at h
  by_cases h1 : ph.length ≠ l.length
  · rw [if_pos h1] at h; cases h
  · rw [if_neg h1] at h
    cases h2 : ph.any (fun x => !rgB x (-2048) 2047) with
    | true => rw [h2, if_pos rfl] at h; cases h
    | false =>
      refine ⟨Classical.not_not.1 h1, fun k hk => ?_⟩
      rw [List.any_eq_false] at h2
      have e : nt ph k = ph[k] := by unfold nt; rw [List.getD_eq_getElem?_getD, List.getElem?_eq_getElem hk]; rfl
      have := h2 ph[k] (List.getElem_mem _)
      simp only [Bool.not_eq_true', Bool.not_eq_false] at this
      rw [e]
      exact rgB_true.1 this
def dfP (ph : List Int) (e : Pn) : Int := wrI (nt ph e.y.toNat - nt ph e.x.toNat)
def dfL (ts : List T3) (ph : List Int) : List Int := (edL ts).map (dfP ph)
theorem dfL_len (ts : List T3) (ph : List Int) : (dfL ts ph).length = (edL ts).length := List.length_map _
theorem dfL_nt {ts : List T3} {ph : List Int} {k : Nat} (h : k < (edL ts).length) : nt (dfL ts ph) k = dfP ph (pt (edL ts) k) := by
  unfold nt dfL pt
  rw [List.getD_eq_getElem?_getD, List.getD_eq_getElem?_getD, List.getElem?_map, List.getElem?_eq_getElem h]
  rfl
end Go.Me
namespace Go.Proofs.Ytmohcmghbfhdlaa
open Go Go.RowKit Go.Ab Go.Me
set_option maxRecDepth 100000
set_option maxHeartbeats 4000000
attribute [local irreducible] OQ OW AL AW AD AF SW
theorem IndexI_0 (f : FuncId) (hen : enters Try.prog f = true) (p : Int → Bool) (hp : ∀ (x : Int) (m : Mem), PCalls Try.prog f [.int .i64 x] m (.bool (p x))) (xs : List Int) (c z : Nat) (hl : xs.length ≤ 1000000) :
    PCalls Try.prog 82 [.slice (some ⟨0, 0, none⟩) xs.length c, .func (.func f) #[] #[]] [some ⟨flatN xs, false, z⟩] (.int .i64 (ixB p xs)) := by
  have hld := fun (k : Nat) (hk : k < xs.length) => flatN_get xs k hk
  have hno := fstN_no (f := fun j => if p (nt xs j) = true then 1 else 0) xs.length
  have hyes := fun (k : Nat) (h1 : k < xs.length) (hj : ∀ j, j < k → p (nt xs j) = false) (he : p (nt xs k) = true) => fstN_yes (f := fun j => if p (nt xs j) = true then 1 else 0) (fun j h => by show (if p (nt xs j) = true then (1 : Int) else 0) = 0; rw [hj j h]; rfl) (by show (if p (nt xs k) = true then (1 : Int) else 0) ≠ 0; rw [he, if_pos rfl]; decide) xs.length h1
  unfold ixB
  generalize fstN (fun j => if p (nt xs j) = true then 1 else 0) xs.length = E0 at *
  refine PCalls.enter (t := [.slice (some ⟨0, 0, none⟩) xs.length c, .func (.func f) #[] #[], undef, undef, undef, undef, undef, undef, undef, undef, undef, undef, undef, undef, undef, undef, undef, undef, undef]) Try.func82 rfl (ro1p _ rfl) rfl fun E => ?_
  repeat' (first
    | with_reducible (first | refine Then.n ?_ | refine Then.r ?_ | refine Then.x ?_ | refine InB.n ?_ | refine InB.r ?_ | refine InB.hit ?_ | refine InB.miss (by decide) ?_)
    | ((with_reducible refine AL.on ?_); first
      | ((first | ((with_reducible refine AL.k_move ?_); first | (refine AL.q rfl (OQ.move wl) ?_)) | ((with_reducible refine AL.k_assign ?_); first | (refine AL.q rfl (OQ.assign wl) ?_)) | ((with_reducible refine AL.k_call ?_); first | refine AL.q rfl (OQ.lenS (xt := 29) (r := (none, 1, false)) rfl kr) ?_) | ((with_reducible refine AL.k_binOp ?_); first | refine AL.q rfl (OQ.lss rfl rfl) ?_ | refine AL.q rfl (OQ.addi rfl rfl (by omega)) ?_ | refine AL.q rfl (OQ.add rfl rfl) ?_) | ((with_reducible refine AL.k_load ?_); first | (refine AL.q rfl (OQ.load1 (ty := 3) rfl kr (by first | (exact hld _ (by omega)) | (conv => lhs; whnf))) ?_))); (refine AL.nm ?_))
      | ((first | ((with_reducible refine AL.k_call ?_); first | refine AL.pcall rfl (by first | assumption | kernel_rfl) rfl ((by exact hp _ _)) ?_) | ((with_reducible refine AL.k_indexAddr ?_); first | refine AL.q rfl (OQ.idxAddr (ty := 29) (z := 1) (g := false) rfl rfl kr (by omega) (by omega)) ?_)); (refine AL.nm ?_))
      | refine AL.nil ?_)
    | ((with_reducible refine AW.on ?_); first
      | refine AW.seq ?_
      | refine AW.skip ?_
      | refine AW.exit ?_
      | refine AW.ret ?_
      | ((refine AW.block (id := 0) ?_); (refine AW.fk [0, 1, 7, 8] ?_); (refine AW.loop (fun n' t' m => ∃ k : Nat, n' = xs.length - k ∧ k ≤ xs.length ∧ (∀ j, j < k → p (nt xs j) = false) ∧ t' = [.slice (some ⟨0, 0, none⟩) xs.length c, .func (.func f) #[] #[], jk, jk, jk, jk, jk, .int .i64 (xs.length), .int .i64 (k), jk, jk, jk, jk, jk, jk, jk, jk, jk, jk] ∧ m = [some ⟨flatN xs, false, z⟩]) (xs.length) (by exact ⟨0, rfl, Nat.zero_le _, fun j h => absurd h (by omega), rfl, rfl⟩) ?_); (rintro n' t' m ⟨k, rfl, hk, hj, rfl, rfl⟩))
      | refine AW.block ?_
      | refine AW.region ?_
      | (refine AW.conds rfl (fun hc => ?_) (fun hc => ?_) <;> (try replace hc := nc hc) <;> first | (exfalso; first | contradiction | (first | omega | (simp at hc; done)); done) | skip))
    | ((with_reducible refine ex_on ?_); (refine ⟨xs.length - (k + 1), _, _, by omega, ?_, k + 1, rfl, by omega, fun j h => (by rcases Nat.lt_or_eq_of_le (Nat.le_of_lt_succ h) with h | rfl; (exact hj j h); (first | assumption | simp_all)), rfl, rfl⟩; exact Wk.fk [0, 1, 7, 8] rfl))
    | ((with_reducible refine FinP.on ?_); (first | refine FinP.ret (.tmp wl .nil) ?_ rfl | refine FinP.end (.tmp wl .nil) ?_ rfl); (try simp only [pack, List.drop, List.take]); all_goals (symm; first | (rw [hyes k (by omega) hj (by first | assumption | simp_all)]; done) | (obtain rfl : k = xs.length := (by omega); rw [hno (fun j h => by show (if p (nt xs j) = true then (1 : Int) else 0) = 0; rw [hj j h]; rfl)]))))
theorem ContainsI_0 (f : FuncId) (hen : enters Try.prog f = true) (p : Int → Bool) (hp : ∀ (x : Int) (m : Mem), PCalls Try.prog f [.int .i64 x] m (.bool (p x))) (xs : List Int) (c z : Nat) (hl : xs.length ≤ 1000000) :
    PCalls Try.prog 65 [.slice (some ⟨0, 0, none⟩) xs.length c, .func (.func f) #[] #[]] [some ⟨flatN xs, false, z⟩] (.bool (xs.any p)) := by
  have hi := IndexI_0 f hen p hp xs c z hl
  rw [← ixB_any]
  generalize ixB p xs = E0 at *
  refine PCalls.enter (t := [.slice (some ⟨0, 0, none⟩) xs.length c, .func (.func f) #[] #[], undef, undef, undef, undef, undef, undef, undef]) Try.func65 rfl (ro1p _ rfl) rfl fun E => ?_
  repeat' (first
    | with_reducible (first | refine Then.n ?_ | refine Then.r ?_ | refine Then.x ?_ | refine InB.n ?_ | refine InB.r ?_ | refine InB.hit ?_ | refine InB.miss (by decide) ?_)
    | ((with_reducible refine AL.on ?_); first
      | ((first | ((with_reducible refine AL.k_assign ?_); first | (refine AL.q rfl (OQ.assign wl) ?_)) | ((with_reducible refine AL.k_move ?_); first | (refine AL.q rfl (OQ.move wl) ?_)) | ((with_reducible refine AL.k_binOp ?_); first | refine AL.q rfl (OQ.geq rfl rfl) ?_)); (refine AL.nm ?_))
      | ((first | first | refine AL.pcall (g := 82) rfl kr rfl ((by exact hi)) ?_); (refine AL.nm ?_))
      | refine AL.nil ?_)
    | ((with_reducible refine AW.on ?_); first
      | refine AW.seq ?_
      | refine AW.skip ?_
      | refine AW.exit ?_
      | refine AW.ret ?_
      | refine AW.block ?_
      | refine AW.region ?_
      | (refine AW.conds rfl (fun hc => ?_) (fun hc => ?_) <;> (try replace hc := nc hc) <;> first | (exfalso; first | contradiction | (first | omega | (simp at hc; done)); done) | skip))
    | ((with_reducible refine FinP.on ?_); (first | refine FinP.ret (.tmp wl .nil) ?_ rfl | refine FinP.end (.tmp wl .nil) ?_ rfl); (try simp only [pack, List.drop, List.take]); all_goals (rfl)))
theorem ContainsI_q {m : Mem} {b n c : Nat} {blk : Blk} (f : FuncId) (hen : enters Try.prog f = true) (p : Int → Bool) (hp : ∀ (x : Int) (m : Mem), PCalls Try.prog f [.int .i64 x] m (.bool (p x))) (xs : List Int) (hl : xs.length ≤ 1000000) (hb : m.at b = some blk) (hc : blk.cells = flatN xs) (hn : xs.length = n) (ho : blk.obj = Ob.plain := by rfl) :
    PCalls Try.prog 65 [.slice (some ⟨b, 0, none⟩) n c, .func (.func f) #[] #[]] m (.bool (xs.any p)) := by
  subst hn
  exact PCalls.viaS [b] (ContainsI_0 f hen p hp xs c blk.esz hl) (ro1p _ rfl) ⟨⟨_, hb, by unfold Blk.shp Blk.shpR; rw [ho]; rfl, (fun h => nomatch h), .inl ⟨hc, flatN_scal _⟩⟩, trivial⟩ rfl rfl rfl rfl
theorem offPh_q (n : Int) (m : Mem) : PCalls Try.prog 83 [.int .i64 n] m (.bool (!rgB n (-2048) 2047)) := by
  refine PCalls.any ?_ rfl rfl m
  have hw := fun m => within_q n (-2048) 2047 m
  refine PCalls.enter (t := [.int .i64 n, undef, undef, undef, undef, undef]) Try.func83 rfl (ro_nil) rfl fun E => ?_
  repeat' (first
    | with_reducible (first | refine Then.n ?_ | refine Then.r ?_ | refine Then.x ?_ | refine InB.n ?_ | refine InB.r ?_ | refine InB.hit ?_ | refine InB.miss (by decide) ?_)
    | ((with_reducible refine AL.on ?_); first
      | ((first | ((with_reducible refine AL.k_assign ?_); first | (refine AL.q rfl (OQ.assign wl) ?_)) | ((with_reducible refine AL.k_move ?_); first | (refine AL.q rfl (OQ.move wl) ?_)) | ((with_reducible refine AL.k_unOp ?_); first | refine AL.q rfl (OQ.not rfl) ?_)); (refine AL.nm ?_))
      | ((first | first | refine AL.pcall (g := 46) rfl kr rfl (hw _) ?_); (refine AL.nm ?_))
      | refine AL.nil ?_)
    | ((with_reducible refine AW.on ?_); first
      | refine AW.seq ?_
      | refine AW.skip ?_
      | refine AW.exit ?_
      | refine AW.ret ?_
      | refine AW.block ?_
      | refine AW.region ?_
      | (refine AW.conds rfl (fun hc => ?_) (fun hc => ?_) <;> (try replace hc := nc hc) <;> first | (exfalso; first | contradiction | (omega); done) | skip))
    | ((with_reducible refine FinP.on ?_); (first | refine FinP.ret (.tmp wl .nil) ?_ rfl | refine FinP.end (.tmp wl .nil) ?_ rfl); (try simp only [pack, List.drop, List.take]); all_goals (rfl)))
theorem ro6p (a b c d e f : Blk) (h1 : a.own = false) (h2 : b.own = false) (h3 : c.own = false) (h4 : d.own = false) (h5 : e.own = false) (h6 : f.own = false) : Mem.ro [some a, some b, some c, some d, some e, some f] := fun k blk hk => by
  match k, hk with
  | 0, hk => cases hk; exact h1
  | 1, hk => cases hk; exact h2
  | 2, hk => cases hk; exact h3
  | 3, hk => cases hk; exact h4
  | 4, hk => cases hk; exact h5
  | 5, hk => cases hk; exact h6
abbrev mem6 (l : List Pn) (ts : List T3) (xs : List Int) (c c2 z0 z1 z2 z4 z5 : Nat) : Mem := [some ⟨flatP l, false, z0⟩, some ⟨flatT ts, false, z1⟩, some ⟨[.slice (some ⟨0, 0, none⟩) l.length c, .slice (some ⟨1, 0, none⟩) ts.length c2, .slice (some ⟨4, 0, none⟩) (edL ts).length INF, .map (some 3)], false, z2⟩, some (mpX (lfA ts) false 0), some ⟨flatP (edL ts), false, z4⟩, some ⟨flatN xs, false, z5⟩]
theorem phasesErr_0 (l : List Pn) (ts : List T3) (ph : List Int) (c c2 c3 z0 z1 z2 z4 z5 : Nat) (hl : ph.length ≤ 1000000) :
    PCalls Try.prog 70 [.pointer (some ⟨2, 0, none⟩), .slice (some ⟨5, 0, none⟩) ph.length c3] [some ⟨flatP l, false, z0⟩, some ⟨flatT ts, false, z1⟩, some ⟨[.slice (some ⟨0, 0, none⟩) l.length c, .slice (some ⟨1, 0, none⟩) ts.length c2, .slice (some ⟨4, 0, none⟩) (edL ts).length INF, .map (some 3)], false, z2⟩, some (mpX (lfA ts) false 0), some ⟨flatP (edL ts), false, z4⟩, some ⟨flatN ph, false, z5⟩] (.int .i64 (phE l ph)) := by
  have hc3 := fun (m : Mem) (b : Nat) (blk : Blk) (h1 : m.at b = some blk) (h2 : blk.cells = flatN ph) (h3 : blk.obj = Ob.plain) => ContainsI_q (c := c3) 83 (by kernel_rfl) (fun x => !rgB x (-2048) 2047) offPh_q ph hl h1 h2 rfl h3
  have e10 : ph.length ≠ l.length → phE l ph = 10 := fun h => if_pos h
  have e2 : ph.length = l.length → ph.any (fun x => !rgB x (-2048) 2047) = true → phE l ph = 2 := fun h h2 => by unfold phE; rw [if_neg (fun h3 => h3 h), if_pos h2]
  have e0 : ph.length = l.length → ph.any (fun x => !rgB x (-2048) 2047) = false → phE l ph = 0 := fun h h2 => by unfold phE; rw [if_neg (fun h3 => h3 h), if_neg (by rw [h2]; decide)]
  generalize phE l ph = E0 at *
  generalize ph.any (fun x => !rgB x (-2048) 2047) = B0 at *
  refine PCalls.enter (t := [.pointer (some ⟨2, 0, none⟩), .slice (some ⟨5, 0, none⟩) ph.length c3, undef, undef, undef, undef, undef, undef, undef, undef, undef, undef, undef, undef, undef, undef, undef, undef]) Try.func70 rfl (ro6p _ _ _ _ _ _ rfl rfl rfl rfl rfl rfl) rfl fun E => ?_
  repeat' (first
    | with_reducible (first | refine Then.n ?_ | refine Then.r ?_ | refine Then.x ?_ | refine InB.n ?_ | refine InB.r ?_ | refine InB.hit ?_ | refine InB.miss (by decide) ?_)
    | ((with_reducible refine AL.on ?_); first
      | ((first | ((with_reducible refine AL.k_assign ?_); first | (refine AL.q rfl (OQ.assign wl) ?_)) | ((with_reducible refine AL.k_move ?_); first | (refine AL.q rfl (OQ.move wl) ?_)) | ((with_reducible refine AL.k_call ?_); first | refine AL.q rfl (OQ.lenS (xt := 29) (r := (none, 1, false)) rfl kr) ?_ | refine AL.q rfl (OQ.lenS (xt := 22) (r := (none, 2, true)) rfl kr) ?_) | ((with_reducible refine AL.k_fieldAddr ?_); first | refine AL.q rfl (OQ.fieldA (ty := 74) (i := 0) (n := 2) (off := 0) (g := true) rfl kr (by decide)) ?_ | refine AL.q rfl (OQ.fieldA (ty := 38) (i := 0) (n := 1) (off := 0) (g := false) rfl kr (by decide)) ?_) | ((with_reducible refine AL.k_load ?_); first | (refine AL.q rfl (OQ.load1 (ty := 22) rfl kr wl) ?_)) | ((with_reducible refine AL.k_binOp ?_); first | refine AL.q rfl (OQ.neq rfl rfl) ?_) | refine AL.q rfl (OQ.nilCheck rfl) ?_); (refine AL.nm ?_))
      | ((first | first | refine AL.pcall (g := 65) rfl kr rfl ((by exact hc3 _ 5 _ rfl rfl rfl)) ?_); (refine AL.nm ?_))
      | refine AL.nil ?_)
    | ((with_reducible refine AW.on ?_); first
      | refine AW.seq ?_
      | refine AW.skip ?_
      | refine AW.exit ?_
      | refine AW.ret ?_
      | refine AW.block ?_
      | refine AW.region ?_
      | (refine AW.conds rfl (fun hc => ?_) (fun hc => ?_) <;> (try replace hc := nc hc) <;> first | (exfalso; first | contradiction | (first | omega | (simp at hc; done)); done) | skip))
    | ((with_reducible refine FinP.on ?_); (first | refine FinP.ret (.tmp wl .nil) ?_ rfl | refine FinP.end (.tmp wl .nil) ?_ rfl); (try simp only [pack, List.drop, List.take]); all_goals (congr 1; first | exact (e10 (by omega)).symm | exact (e2 (by omega) (by assumption)).symm | exact (e0 (by omega) (by assumption)).symm)))
theorem differences_0 (l : List Pn) (ts : List T3) (hR : NetR l ts) (ph : List Int) (hph : phE l ph = 0) (c c2 c3 z0 z1 z2 z4 z5 : Nat) :
    ACalls Try.prog 50 [.pointer (some ⟨2, 0, none⟩), .slice (some ⟨5, 0, none⟩) ph.length c3] [some ⟨flatP l, false, z0⟩, some ⟨flatT ts, false, z1⟩, some ⟨[.slice (some ⟨0, 0, none⟩) l.length c, .slice (some ⟨1, 0, none⟩) ts.length c2, .slice (some ⟨4, 0, none⟩) (edL ts).length INF, .map (some 3)], false, z2⟩, some (mpX (lfA ts) false 0), some ⟨flatP (edL ts), false, z4⟩, some ⟨flatN ph, false, z5⟩]
      (.slice (some ⟨6, 0, none⟩) (edL ts).length INF) [some ⟨flatP l, false, z0⟩, some ⟨flatT ts, false, z1⟩, some ⟨[.slice (some ⟨0, 0, none⟩) l.length c, .slice (some ⟨1, 0, none⟩) ts.length c2, .slice (some ⟨4, 0, none⟩) (edL ts).length INF, .map (some 3)], false, z2⟩, some (mpX (lfA ts) false 0), some ⟨flatP (edL ts), false, z4⟩, some ⟨flatN ph, false, z5⟩, some ⟨flatN (dfL ts ph), true, 1⟩] := by
  obtain ⟨hpl, hpb⟩ := phE_0 hph
  have hr := fun (k : Nat) (hk : k < (edL ts).length) => edL_at hR.ok k hk
  have hg := fun (k : Nat) (hk : k < ph.length) => flatN_get ph k hk
  have hpos := edL_pos hR
  have hle := edL_le ts
  have h80 := hR.le
  have hdl := dfL_len ts ph
  have hnt := fun (k : Nat) (hk : k < (edL ts).length) => dfL_nt (ph := ph) hk
  have hft := fun (k : Nat) (hk : k < (edL ts).length) => flatN_take (xs := dfL ts ph) (k := k) (by rw [dfL_len]; exact hk)
  have hfl : ∀ k, k ≤ (edL ts).length → (flatN ((dfL ts ph).take k)).length = k * 1 := fun k hk => by rw [flatN_len, List.length_take, dfL_len, Nat.min_eq_left hk, Nat.mul_one]
  have htl : (dfL ts ph).take (edL ts).length = dfL ts ph := by rw [← dfL_len ts ph, List.take_length]
  have hwr := fun (n : Int) (hn : -1000000000 ≤ n ∧ n ≤ 1000000000) (m : Mem) => wrap_q n hn m
  refine ACalls.enter (t := [.pointer (some ⟨2, 0, none⟩), .slice (some ⟨5, 0, none⟩) ph.length c3, undef, undef, undef, undef, undef, undef, undef, undef, undef, undef, undef, undef, undef, undef, undef, undef, undef, undef, undef, undef, undef, undef, undef, undef, undef, undef, undef, undef, undef, undef, undef, undef]) Try.func50 rfl rfl fun E hE => ?_
  repeat' (first
    | with_reducible (first | refine Then.n ?_ | refine Then.r ?_ | refine Then.x ?_ | refine InB.n ?_ | refine InB.r ?_ | refine InB.hit ?_ | refine InB.miss (by decide) ?_)
    | ((with_reducible refine AL.on ?_); first
      | ((first | ((with_reducible refine AL.k_move ?_); first | (refine AL.q rfl (OQ.move wl) ?_)) | ((with_reducible refine AL.k_load ?_); first | (refine AL.q rfl (OQ.load1 (ty := 42) rfl kr (by first | (first | exact hg _ (by omega) | exact flatP_ld rfl rfl _ (by omega)) | (conv => lhs; whnf))) ?_) | refine AL.q rfl (OQ.loadN (ty := 45) (n := 2) rfl kr kr (by first | (first | exact hg _ (by omega) | exact flatP_ld rfl rfl _ (by omega)) | rfl)) ?_) | ((with_reducible refine AL.k_assign ?_); first | (refine AL.q rfl (OQ.assign wl) ?_)) | ((with_reducible refine AL.k_call ?_); first | refine AL.q rfl (OQ.lenS (xt := 42) (r := (none, 2, true)) rfl kr) ?_) | ((with_reducible refine AL.k_binOp ?_); first | refine AL.q rfl (OQ.lss rfl rfl) ?_ | refine AL.q rfl (OQ.addi rfl rfl (by omega)) ?_ | refine AL.q rfl (OQ.add rfl rfl) ?_) | refine AL.q rfl (OQ.nilCheck rfl) ?_); (refine AL.nm ?_))
      | ((first | ((with_reducible refine AL.k_indexAddr ?_); first | refine AL.q rfl (OQ.idxAddr (ty := 42) (z := 2) (g := true) rfl rfl kr (by first | omega | decide) (by first | omega | decide)) ?_) | ((with_reducible refine AL.k_fieldAddr ?_); first | refine AL.q rfl (OQ.fieldA (ty := 74) (i := 1) (n := 1) (off := 2) (g := false) rfl kr (by decide)) ?_)); (refine AL.nm ?_))
      | ((first | ((with_reducible refine AL.k_call ?_); first | refine AL.w rfl (by first | exact OW.appendNil (e := 3) (z := 1) (zs := [.int .i64 0]) (by' := 8) rfl rfl kr kr kr rfl kr (by decide) rfl (by decide) (by decide) | exact OW.appendL (e := 3) (z := 1) (zs := [.int .i64 0]) (by' := 8) rfl rfl kr kr kr rfl kr (by decide) rfl rfl rfl (by decide) (by exact hfl k (by omega)) rfl rfl (by omega) (by omega)) ?_) | ((with_reducible refine AL.k_alloc ?_); first | refine AL.w rfl (OW.alloc (ty := 45) (z := [.int .i64 0, .int .i64 0]) kr rfl) ?_) | ((with_reducible refine AL.k_store ?_); first | (refine AL.w rfl (OW.store (ty := 45) (n := 2) rfl wl rfl rfl kr rfl rfl (by decide) rfl (Nat.le_of_ble_eq_true rfl) (by intro r h; cases h)) ?_))); (refine AL.nm ?_); (refine AL.nM ?_))
      | refine AL.nil ?_)
    | ((with_reducible refine AW.on ?_); first
      | refine AW.seq ?_
      | refine AW.skip ?_
      | refine AW.exit ?_
      | refine AW.ret ?_
      | ((refine AW.block (id := 0) ?_); (refine AW.fk [1, 5, 11, 12, 13] ?_); (refine AW.loop (fun n' t' m => ∃ k : Nat, n' = (edL ts).length - k ∧ k ≤ (edL ts).length ∧ ((k = 0 ∧ t' = [jk, .slice (some ⟨5, 0, none⟩) ph.length c3, jk, jk, jk, .slice none 0 0, jk, jk, jk, jk, jk, .slice (some ⟨4, 0, none⟩) ((edL ts).length) INF, .int .i64 ((edL ts).length), .int .i64 (k), jk, jk, jk, jk, jk, jk, jk, jk, jk, jk, jk, jk, jk, jk, jk, jk, jk, jk, jk, jk] ∧ m = mem6 l ts ph c c2 z0 z1 z2 z4 z5) ∨ (0 < k ∧ t' = [jk, .slice (some ⟨5, 0, none⟩) ph.length c3, jk, jk, jk, .slice (some ⟨6, 0, none⟩) (k) INF, jk, jk, jk, jk, jk, .slice (some ⟨4, 0, none⟩) ((edL ts).length) INF, .int .i64 ((edL ts).length), .int .i64 (k), jk, jk, jk, jk, jk, jk, jk, jk, jk, jk, jk, jk, jk, jk, jk, jk, jk, jk, jk, jk] ∧ m = [some ⟨flatP l, false, z0⟩, some ⟨flatT ts, false, z1⟩, some ⟨[.slice (some ⟨0, 0, none⟩) l.length c, .slice (some ⟨1, 0, none⟩) ts.length c2, .slice (some ⟨4, 0, none⟩) (edL ts).length INF, .map (some 3)], false, z2⟩, some (mpX (lfA ts) false 0), some ⟨flatP (edL ts), false, z4⟩, some ⟨flatN ph, false, z5⟩, some ⟨flatN ((dfL ts ph).take k), true, 1⟩]))) ((edL ts).length) (by exact ⟨0, rfl, Nat.zero_le _, .inl ⟨rfl, rfl, rfl⟩⟩) ?_); (rintro n' t' m ⟨k, rfl, hk, (⟨hk0, rfl, rfl⟩ | ⟨hk1, rfl, rfl⟩)⟩))
      | refine AW.block ?_
      | (refine AW.drawF (id := 5) 14 #[0, 0, 0, 4, 14, 30, 0, 0, 128, 448, 960, 2046, 4094, 8190, 16383, 32767] kr kr ?_; (conv => (arg 8; simp only [List.take_succ_cons, List.take_zero])); ((have hq := hr k (by omega); have hq1 := hpb (pt (edL ts) k).x.toNat (by omega); have hq2 := hpb (pt (edL ts) k).y.toNat (by omega))))
      | refine AW.region ?_
      | (refine AW.conds rfl (fun hc => ?_) (fun hc => ?_) <;> (try replace hc := nc hc) <;> first | (exfalso; first | contradiction | (first | omega | (simp at hc; done)); done) | skip))
    | ((with_reducible refine AF.on ?_); first
      | ((first | ((with_reducible refine AF.k_move ?_); first | (refine AF.q 0 (SW.q (OQ.move wl) rfl) ?_)) | ((with_reducible refine AF.k_load ?_); first | (refine AF.ql rfl (SW.q (OQ.load1 (ty := 3) rfl kr (by first | (first | exact hg _ (by omega) | exact flatP_ld rfl rfl _ (by omega)) | (conv => lhs; whnf))) rfl) ?_)) | ((with_reducible refine AF.k_indexAddr ?_); first | refine AF.q 0 (SW.q (OQ.idxPtr (ty := 45) (n := 1) (l := 2) (g := false) rfl rfl kr (by first | omega | decide) (by first | omega | decide)) rfl) ?_ | refine AF.q 0 (SW.q (OQ.idxAddr (ty := 29) (z := 1) (g := false) rfl rfl kr (by first | omega | decide) (by first | omega | decide)) rfl) ?_) | ((with_reducible refine AF.k_binOp ?_); first | refine AF.q 0 (SW.q (OQ.subi rfl rfl (by omega)) rfl) ?_ | refine AF.q 0 (SW.q (OQ.sub rfl rfl) rfl) ?_) | ((with_reducible refine AF.k_call ?_); first | refine AF.q 2 (SW.pcall (g := 73) rfl kr rfl ((by exact hwr _ (by omega) _)) rfl) ?_)); (conv => (arg 9; try tactic => exact nrmF)); (conv => (arg 11; try simp only [List.nil_append, List.cons_append])))
      | ((first | first | refine AF.n1 0 (SW.w (OW.buildSl (ty := 29) (zs := [.int .i64 0]) (n := 1) (g := false) kr kr rfl rfl rfl (by decide) (by decide) rfl rfl) rfl) rfl ?_); (conv => (arg 9; try tactic => exact nrmF)); (conv => (arg 11; try simp only [List.nil_append, List.cons_append])); (conv => (arg 10; try tactic => exact nrmF)))
      | (refine AF.nil ?_ kr; (conv => (arg 4; simp only [List.drop_succ_cons, List.drop_zero, List.drop_nil]))))
    | ((with_reducible refine ex_on ?_); first | (obtain rfl := hk0; have hf0 := hft 0 (by omega); rw [hnt 0 (by omega)] at hf0; refine ⟨(edL ts).length - 1, [jk, .slice (some ⟨5, 0, none⟩) ph.length c3, jk, jk, jk, .slice (some ⟨6, 0, none⟩) (1) INF, jk, jk, jk, jk, jk, .slice (some ⟨4, 0, none⟩) ((edL ts).length) INF, .int .i64 ((edL ts).length), .int .i64 (((0 + 1 : Nat) : Int)), jk, jk, jk, jk, jk, jk, jk, jk, jk, jk, jk, jk, jk, jk, jk, jk, jk, jk, jk, jk], mem6 l ts ph c c2 z0 z1 z2 z4 z5 ++ [some ⟨[.int .i64 (dfP ph (pt (edL ts) 0))], true, 1⟩], by omega, ?_, 0 + 1, rfl, by omega, .inr ⟨by omega, rfl, by rw [← hf0]; rfl⟩⟩; exact Wk.keep 6 [8] (by rw [hE]; exact Nat.le_of_ble_eq_true rfl) rfl rfl (by repeat (first | exact RenT.nil | refine RenT.jk ?_ | refine RenT.val (by first | rfl | with_reducible assumption | (simp only [rn3, rn2, rn1, kσ]; done)) (by first | rfl | assumption | (simp [ok3, ok2, ok1]; done)) ?_)) ⟨⟨_, rfl, rfl, rfl, .inl ⟨rfl, flatP_scal l⟩⟩, ⟨_, rfl, rfl, rfl, .inl ⟨rfl, flatT_scal ts⟩⟩, ⟨_, rfl, rfl, rfl, .inr ⟨rfl, rfl⟩⟩, ⟨_, rfl, rfl, rfl, .inl ⟨rfl, rfl⟩⟩, ⟨_, rfl, rfl, rfl, .inl ⟨rfl, flatP_scal _⟩⟩, ⟨_, rfl, rfl, rfl, .inl ⟨rfl, flatN_scal _⟩⟩, ⟨_, rfl, rfl, rfl, .inl ⟨rfl, rfl⟩⟩, trivial⟩) | (have hf0 := hft k (by omega); rw [hnt k (by omega)] at hf0; refine ⟨(edL ts).length - (k + 1), [jk, .slice (some ⟨5, 0, none⟩) ph.length c3, jk, jk, jk, .slice (some ⟨6, 0, none⟩) (k + 1) INF, jk, jk, jk, jk, jk, .slice (some ⟨4, 0, none⟩) ((edL ts).length) INF, .int .i64 ((edL ts).length), .int .i64 (((k + 1 : Nat) : Int)), jk, jk, jk, jk, jk, jk, jk, jk, jk, jk, jk, jk, jk, jk, jk, jk, jk, jk, jk, jk], mem6 l ts ph c c2 z0 z1 z2 z4 z5 ++ [some ⟨flatN ((dfL ts ph).take k) ++ [.int .i64 (dfP ph (pt (edL ts) k))], true, 1⟩], by omega, ?_, k + 1, rfl, by omega, .inr ⟨by omega, rfl, by rw [← hf0]; rfl⟩⟩; exact Wk.keep 6 [9] (by rw [hE]; exact Nat.le_of_ble_eq_true rfl) rfl rfl (by repeat (first | exact RenT.nil | refine RenT.jk ?_ | refine RenT.val (by first | rfl | with_reducible assumption | (simp only [rn3, rn2, rn1, kσ]; done)) (by first | rfl | assumption | (simp [ok3, ok2, ok1]; done)) ?_)) ⟨⟨_, rfl, rfl, rfl, .inl ⟨rfl, flatP_scal l⟩⟩, ⟨_, rfl, rfl, rfl, .inl ⟨rfl, flatT_scal ts⟩⟩, ⟨_, rfl, rfl, rfl, .inr ⟨rfl, rfl⟩⟩, ⟨_, rfl, rfl, rfl, .inl ⟨rfl, rfl⟩⟩, ⟨_, rfl, rfl, rfl, .inl ⟨rfl, flatP_scal _⟩⟩, ⟨_, rfl, rfl, rfl, .inl ⟨rfl, flatN_scal _⟩⟩, ⟨_, rfl, rfl, rfl, .inl ⟨rfl, by rw [List.all_append, flatN_scal]; rfl⟩⟩, trivial⟩))
    | ((with_reducible refine FinA.on ?_); (obtain rfl : k = (edL ts).length := (by omega); rw [htl]; refine FinA.keep 7 [] (.inl rfl) (.tmp wl .nil) ?_ rfl (by rw [hE]; exact Nat.le_of_ble_eq_true rfl) rfl rfl ⟨⟨_, rfl, rfl, rfl, .inl ⟨rfl, flatP_scal l⟩⟩, ⟨_, rfl, rfl, rfl, .inl ⟨rfl, flatT_scal ts⟩⟩, ⟨_, rfl, rfl, rfl, .inr ⟨rfl, rfl⟩⟩, ⟨_, rfl, rfl, rfl, .inl ⟨rfl, rfl⟩⟩, ⟨_, rfl, rfl, rfl, .inl ⟨rfl, flatP_scal _⟩⟩, ⟨_, rfl, rfl, rfl, .inl ⟨rfl, flatN_scal _⟩⟩, ⟨_, rfl, rfl, rfl, .inl ⟨rfl, flatN_scal _⟩⟩, trivial⟩; rfl)))
end Go.Proofs.Ytmohcmghbfhdlaa
end
end
/- Chapter 6: sums around triangles (the program's). -/
section
set_option linter.unusedSimpArgs false
set_option linter.unusedVariables false
section
namespace Go.Me
open Go.Ab Go.Proofs.Ytmohcmghbfhdlaa
theorem lf_idx {ts : List T3} : ∀ k, ∀ p ∈ lf ts k, 0 ≤ p.2 ∧ p.2 < (k : Int)
  | 0, p, hp => by simp [lf] at hp
  | k + 1, p, hp => by
    rw [lf_succ] at hp
    simp only [List.mem_append, List.mem_singleton] at hp
    rcases hp with ((hp | rfl) | rfl) | rfl
    · have := lf_idx k p hp
      omega
    all_goals simp only; omega
theorem lk_rng (ts : List T3) (e : IE) : -1 ≤ lk (lfA ts) e ∧ lk (lfA ts) e < ts.length := by
  by_cases h : e ∈ (lfA ts).map (·.1)
  · have := lf_idx ts.length _ (lk_mem h)
    simp only at this
    unfold lfA at *
    omega
  · rw [lk_not h]
    omega
theorem sdP_rng (ts : List T3) (e : Pn) : (-1 ≤ (sdP ts e).x ∧ (sdP ts e).x < ts.length) ∧ (-1 ≤ (sdP ts e).y ∧ (sdP ts e).y < ts.length) := ⟨lk_rng ts _, lk_rng ts _⟩
def smL (ts : List T3) (xs : List Int) : Nat → List Int
  | 0 => List.replicate ts.length 0
  | k + 1 =>
    let s := sdP ts (pt (edL ts) k)
    let A1 := if s.x = -1 then smL ts xs k else (smL ts xs k).set s.x.toNat (nt (smL ts xs k) s.x.toNat + nt xs k)
    if s.y = -1 then A1 else A1.set s.y.toNat (nt A1 s.y.toNat - nt xs k)
theorem smL_len (ts : List T3) (xs : List Int) : ∀ k, (smL ts xs k).length = ts.length
  | 0 => List.length_replicate
  | k + 1 => by
    have := smL_len ts xs k
    unfold smL
    simp only
    split <;> split <;> simp [this]
theorem nt_set {A : List Int} {i j : Nat} {x : Int} (hj : j < A.length) : nt (A.set i x) j = if i = j then x else nt A j := by
  unfold nt
  rw [List.getD_eq_getElem?_getD, List.getD_eq_getElem?_getD, List.getElem?_set]
  by_cases h : i = j
  · subst h; simp [hj]
  · simp [h]
theorem smL_bd {ts : List T3} {xs : List Int} (hx : ∀ k, k < xs.length → -1000000000 ≤ nt xs k ∧ nt xs k ≤ 1000000000) : ∀ k, k ≤ xs.length → ∀ i, i < ts.length → -(2000000000 * (k : Int)) ≤ nt (smL ts xs k) i ∧ nt (smL ts xs k) i ≤ 2000000000 * (k : Int)
  | 0, _, i, hi => by
    unfold smL nt
    rw [List.getD_eq_getElem?_getD, List.getElem?_replicate, if_pos hi]
    simp
  | k + 1, hk, i, hi => by
    have ih := smL_bd (ts := ts) hx k (by omega)
    have h1 := hx k (by omega)
    have h2 := ih i hi
    have hl := smL_len ts xs k
    have hr := sdP_rng ts (pt (edL ts) k)
    unfold smL
    simp only
    split <;> split
    · omega
    · rw [nt_set (by omega)]
      have h3 := ih (sdP ts (pt (edL ts) k)).x.toNat (by omega)
      split <;> omega
    · rw [nt_set (by omega)]
      have h3 := ih (sdP ts (pt (edL ts) k)).y.toNat (by omega)
      split <;> omega
    · have h3 := ih (sdP ts (pt (edL ts) k)).x.toNat (by omega)
      have h4 := ih (sdP ts (pt (edL ts) k)).y.toNat (by omega)
      rw [nt_set (by rw [List.length_set]; omega), nt_set (by omega), nt_set (by omega)]
      repeat' split
      all_goals omega
theorem flatN_set (A : List Int) (i : Nat) (x : Int) : flatN (A.set i x) = (flatN A).set i (.int .i64 x) := by
  unfold flatN
  rw [List.map_set]
theorem flatN_zero {n : Nat} {f : Nat → Value} (hf : ∀ i, f i = .int .i64 0) : (List.range n).map f = flatN (List.replicate n 0) := by
  unfold flatN
  rw [List.map_replicate]
  refine List.ext_getElem (by simp) fun i h1 h2 => ?_
  simp [hf]
theorem mem6_zero {l : List Pn} {ts : List T3} {xs : List Int} {c c2 z0 z1 z2 z4 z5 : Nat} {f : Nat → Value} {A : List Int} (hA : A = List.replicate ts.length 0) (hf : ∀ i, f i = .int .i64 0) : mem6 l ts xs c c2 z0 z1 z2 z4 z5 ++ [some ⟨(List.range ts.length).map f, true, 1⟩] = mem6 l ts xs c c2 z0 z1 z2 z4 z5 ++ [some ⟨flatN A, true, 1⟩] := by
  rw [hA, flatN_zero hf]
theorem smL_a {ts : List T3} {xs : List Int} {k : Nat} (h1 : (sdP ts (pt (edL ts) k)).x = -1) (h2 : (sdP ts (pt (edL ts) k)).y = -1) : smL ts xs (k + 1) = smL ts xs k := by
  conv => lhs; unfold smL
  simp only
  rw [if_pos h2, if_pos h1]
theorem smL_b {ts : List T3} {xs : List Int} {k : Nat} (h1 : (sdP ts (pt (edL ts) k)).x = -1) (h2 : (sdP ts (pt (edL ts) k)).y ≠ -1) : smL ts xs (k + 1) = (smL ts xs k).set (sdP ts (pt (edL ts) k)).y.toNat (nt (smL ts xs k) (sdP ts (pt (edL ts) k)).y.toNat - nt xs k) := by
  conv => lhs; unfold smL
  simp only
  rw [if_neg h2, if_pos h1]
theorem smL_c {ts : List T3} {xs : List Int} {k : Nat} (h1 : (sdP ts (pt (edL ts) k)).x ≠ -1) (h2 : (sdP ts (pt (edL ts) k)).y = -1) : smL ts xs (k + 1) = (smL ts xs k).set (sdP ts (pt (edL ts) k)).x.toNat (nt (smL ts xs k) (sdP ts (pt (edL ts) k)).x.toNat + nt xs k) := by
  conv => lhs; unfold smL
  simp only
  rw [if_pos h2, if_neg h1]
theorem smL_d {ts : List T3} {xs : List Int} {k : Nat} (h1 : (sdP ts (pt (edL ts) k)).x ≠ -1) (h2 : (sdP ts (pt (edL ts) k)).y ≠ -1) : smL ts xs (k + 1) = ((smL ts xs k).set (sdP ts (pt (edL ts) k)).x.toNat (nt (smL ts xs k) (sdP ts (pt (edL ts) k)).x.toNat + nt xs k)).set (sdP ts (pt (edL ts) k)).y.toNat (nt ((smL ts xs k).set (sdP ts (pt (edL ts) k)).x.toNat (nt (smL ts xs k) (sdP ts (pt (edL ts) k)).x.toNat + nt xs k)) (sdP ts (pt (edL ts) k)).y.toNat - nt xs k) := by
  conv => lhs; unfold smL
  simp only
  rw [if_neg h2, if_neg h1]
end Go.Me
namespace Go.Proofs.Ytmohcmghbfhdlaa
open Go Go.RowKit Go.Ab Go.Me
set_option maxRecDepth 100000
set_option maxHeartbeats 4000000
attribute [local irreducible] OQ OW AL AW AD AF SW
theorem sums_0 (l : List Pn) (ts : List T3) (hR : NetR l ts) (xs : List Int) (hxl : xs.length = (edL ts).length) (hx : ∀ k, k < xs.length → -1000000000 ≤ nt xs k ∧ nt xs k ≤ 1000000000) (c c2 c3 z0 z1 z2 z4 z5 : Nat) :
    ACalls Try.prog 72 [.pointer (some ⟨2, 0, none⟩), .slice (some ⟨5, 0, none⟩) xs.length c3] [some ⟨flatP l, false, z0⟩, some ⟨flatT ts, false, z1⟩, some ⟨[.slice (some ⟨0, 0, none⟩) l.length c, .slice (some ⟨1, 0, none⟩) ts.length c2, .slice (some ⟨4, 0, none⟩) (edL ts).length INF, .map (some 3)], false, z2⟩, some (mpX (lfA ts) false 0), some ⟨flatP (edL ts), false, z4⟩, some ⟨flatN xs, false, z5⟩]
      (.slice (some ⟨6, 0, none⟩) ts.length ts.length) [some ⟨flatP l, false, z0⟩, some ⟨flatT ts, false, z1⟩, some ⟨[.slice (some ⟨0, 0, none⟩) l.length c, .slice (some ⟨1, 0, none⟩) ts.length c2, .slice (some ⟨4, 0, none⟩) (edL ts).length INF, .map (some 3)], false, z2⟩, some (mpX (lfA ts) false 0), some ⟨flatP (edL ts), false, z4⟩, some ⟨flatN xs, false, z5⟩, some ⟨flatN (smL ts xs xs.length), true, 1⟩] := by
  have hg := fun (k : Nat) (hk : k < xs.length) => flatN_get xs k hk
  have hle := edL_le ts
  have h80 := hR.le
  have hs := fun (m : Mem) (i : Nat) (h : OpenN m 2 3 4 0 1 c c2 l ts) (hi : i < (edL ts).length) => sides_q (i := i) h hR hi
  have hr := fun (k : Nat) => sdP_rng ts (pt (edL ts) k)
  have hsl := smL_len ts xs
  have hbd := smL_bd (ts := ts) hx
  have hS0 : smL ts xs 0 = List.replicate ts.length 0 := rfl
  have ha := fun k => smL_a (ts := ts) (xs := xs) (k := k)
  have hb := fun k => smL_b (ts := ts) (xs := xs) (k := k)
  have hc1 := fun k => smL_c (ts := ts) (xs := xs) (k := k)
  have hd := fun k => smL_d (ts := ts) (xs := xs) (k := k)
  have hsn := fun k => flatN_scal (smL ts xs k)
  have hgA := fun (k i : Nat) (hi : i < ts.length) => flatN_get (smL ts xs k) i (by rw [smL_len]; exact hi)
  have hgB : ∀ (k i j : Nat) (x : Int) (hi : i < ts.length), ((flatN (smL ts xs k)).set j (.int .i64 x))[i]? = some (.int .i64 (nt ((smL ts xs k).set j x) i)) := fun k i j x hi => by
    rw [← flatN_set]
    exact flatN_get _ _ (by rw [List.length_set, smL_len]; exact hi)
  have hnB : ∀ (k i j : Nat) (x : Int) (hi : i < ts.length), nt ((smL ts xs k).set j x) i = if j = i then x else nt (smL ts xs k) i := fun k i j x hi => nt_set (by rw [smL_len]; exact hi)
  have hfl : ∀ k, (flatN (smL ts xs k)).length = ts.length := fun k => by rw [flatN_len, smL_len]
  refine ACalls.enter (t := [.pointer (some ⟨2, 0, none⟩), .slice (some ⟨5, 0, none⟩) xs.length c3, undef, undef, undef, undef, undef, undef, undef, undef, undef, undef, undef, undef, undef, undef, undef, undef, undef, undef, undef, undef, undef, undef, undef, undef, undef, undef, undef, undef, undef, undef, undef, undef, undef, undef, undef, undef, undef, undef, undef, undef, undef, undef, undef, undef, undef, undef, undef, undef]) Try.func72 rfl rfl fun E hE => ?_
  repeat' (first
    | with_reducible (first | refine Then.n ?_ | refine Then.r ?_ | refine Then.x ?_ | refine InB.n ?_ | refine InB.r ?_ | refine InB.hit ?_ | refine InB.miss (by decide) ?_)
    | ((with_reducible refine AL.on ?_); first
      | ((first | ((with_reducible refine AL.k_move ?_); first | (refine AL.q rfl (OQ.move wl) ?_)) | ((with_reducible refine AL.k_load ?_); first | (refine AL.q rfl (OQ.load1 (ty := 36) rfl kr (by first | (first | exact hg _ (by omega) | exact hgA k _ (by omega) | exact hgB k _ _ _ (by omega)) | (conv => lhs; whnf))) ?_) | (refine AL.q rfl (OQ.load1 (ty := 3) rfl kr (by first | (first | exact hg _ (by omega) | exact hgA k _ (by omega) | exact hgB k _ _ _ (by omega)) | (conv => lhs; whnf))) ?_)) | ((with_reducible refine AL.k_binOp ?_); first | refine AL.q rfl (OQ.lss rfl rfl) ?_ | refine AL.q rfl (OQ.neq rfl rfl) ?_ | refine AL.q rfl (OQ.addi rfl rfl (by omega)) ?_ | refine AL.q rfl (OQ.add rfl rfl) ?_ | refine AL.q rfl (OQ.subi rfl rfl (by omega)) ?_ | refine AL.q rfl (OQ.sub rfl rfl) ?_) | ((with_reducible refine AL.k_assign ?_); first | (refine AL.q rfl (OQ.assign wl) ?_)) | ((with_reducible refine AL.k_call ?_); first | refine AL.q rfl (OQ.lenS (xt := 36) (r := (none, 3, true)) rfl kr) ?_ | refine AL.q rfl (OQ.lenS (xt := 29) (r := (none, 1, false)) rfl kr) ?_) | refine AL.q rfl (OQ.nilCheck rfl) ?_); (refine AL.nm ?_))
      | ((first | ((with_reducible refine AL.k_indexAddr ?_); first | refine AL.q rfl (OQ.idxAddr (ty := 29) (z := 1) (g := false) rfl rfl kr (by first | omega | decide) (by first | omega | decide)) ?_ | refine AL.q rfl (OQ.idxPtr (ty := 45) (n := 1) (l := 2) (g := false) rfl rfl kr (by first | omega | decide) (by first | omega | decide)) ?_) | ((with_reducible refine AL.k_call ?_); first | refine AL.pcall (g := 36) rfl kr rfl ((by exact hs _ k ⟨⟨_, rfl, rfl, rfl⟩, ⟨_, rfl, rfl, rfl⟩, ⟨_, rfl, rfl, rfl⟩, ⟨_, rfl⟩, ⟨_, rfl, rfl, rfl⟩⟩ (by omega))) ?_) | ((with_reducible refine AL.k_fieldAddr ?_); first | refine AL.q rfl (OQ.fieldA (ty := 74) (i := 0) (n := 2) (off := 0) (g := true) rfl kr (by decide)) ?_ | refine AL.q rfl (OQ.fieldA (ty := 38) (i := 1) (n := 1) (off := 1) (g := false) rfl kr (by decide)) ?_)); (refine AL.nm ?_))
      | ((first | ((with_reducible refine AL.k_store ?_); first | (refine AL.w rfl (OW.store (ty := 45) (n := 2) rfl wl rfl rfl kr rfl rfl (by decide) rfl (by first | exact Nat.le_of_ble_eq_true rfl | ((first | (simp only [List.length_set, hfl]; omega) | (simp [hfl]; omega)))) (by intro r h; cases h)) ?_) | (refine AL.w rfl (OW.store (ty := 3) (n := 1) rfl wl rfl rfl kr rfl rfl (by decide) rfl (by first | exact Nat.le_of_ble_eq_true rfl | ((first | (simp only [List.length_set, hfl]; omega) | (simp [hfl]; omega)))) (by intro r h; cases h)) ?_)) | ((with_reducible refine AL.k_alloc ?_); first | refine AL.w rfl (OW.alloc (ty := 45) (z := [.int .i64 0, .int .i64 0]) kr rfl) ?_) | refine AL.w rfl (OW.makeSl (st := 29) (e := 3) (z := 1) (by' := 8) (zs := [.int .i64 0]) rfl kr kr kr rfl rfl kr (by decide) (by omega) (by omega)) ?_); (refine AL.nm ?_); (refine AL.nM ?_))
      | refine AL.nil ?_)
    | ((with_reducible refine AW.on ?_); first
      | refine AW.seq ?_
      | refine AW.skip ?_
      | refine AW.exit ?_
      | refine AW.ret ?_
      | ((refine AW.block (id := 0) ?_); (refine AW.fk [0, 5, 16, 17, 18] ?_); (refine AW.loop (fun n' t' m => ∃ k : Nat, n' = xs.length - k ∧ k ≤ xs.length ∧ t' = [.pointer (some ⟨2, 0, none⟩), jk, jk, jk, jk, .slice (some ⟨6, 0, none⟩) ts.length ts.length, jk, jk, jk, jk, jk, jk, jk, jk, jk, jk, .slice (some ⟨5, 0, none⟩) xs.length c3, .int .i64 (xs.length), .int .i64 (k), jk, jk, jk, jk, jk, jk, jk, jk, jk, jk, jk, jk, jk, jk, jk, jk, jk, jk, jk, jk, jk, jk, jk, jk, jk, jk, jk, jk, jk, jk, jk] ∧ m = mem6 l ts xs c c2 z0 z1 z2 z4 z5 ++ [some ⟨flatN (smL ts xs k), true, 1⟩]) (xs.length) (by exact ⟨0, rfl, Nat.zero_le _, rfl, mem6_zero hS0 (fun i => by simp [Nat.mod_one])⟩) ?_); (rintro n' t' m ⟨k, rfl, hk, rfl, rfl⟩))
      | refine AW.block ?_
      | (refine AW.region (id := 6) ?_; ((have hq := hr k; have hx2 := hx k (by omega))))
      | (refine AW.region (id := 7) ?_; ((have hq1 := hbd k (by omega) (sdP ts (pt (edL ts) k)).x.toNat (by omega))))
      | (refine AW.region (id := 9) ?_; ((have hq2 := hbd k (by omega) (sdP ts (pt (edL ts) k)).y.toNat (by omega); have hq4 := hnB k (sdP ts (pt (edL ts) k)).y.toNat (sdP ts (pt (edL ts) k)).x.toNat (nt (smL ts xs k) (sdP ts (pt (edL ts) k)).x.toNat + nt xs k) (by omega); have hq5 : nt ((smL ts xs k).set (sdP ts (pt (edL ts) k)).x.toNat (nt (smL ts xs k) (sdP ts (pt (edL ts) k)).x.toNat + nt xs k)) (sdP ts (pt (edL ts) k)).y.toNat = nt (smL ts xs k) (sdP ts (pt (edL ts) k)).x.toNat + nt xs k ∧ (sdP ts (pt (edL ts) k)).x.toNat = (sdP ts (pt (edL ts) k)).y.toNat ∨ nt ((smL ts xs k).set (sdP ts (pt (edL ts) k)).x.toNat (nt (smL ts xs k) (sdP ts (pt (edL ts) k)).x.toNat + nt xs k)) (sdP ts (pt (edL ts) k)).y.toNat = nt (smL ts xs k) (sdP ts (pt (edL ts) k)).y.toNat := (by rw [hq4]; split; (exact .inl ⟨rfl, by assumption⟩); exact .inr rfl); clear hq4; have hq6 : (sdP ts (pt (edL ts) k)).x.toNat = (sdP ts (pt (edL ts) k)).y.toNat → nt (smL ts xs k) (sdP ts (pt (edL ts) k)).x.toNat = nt (smL ts xs k) (sdP ts (pt (edL ts) k)).y.toNat := (fun h => by rw [h]))))
      | refine AW.region ?_
      | (refine AW.conds rfl (fun hc => ?_) (fun hc => ?_) <;> (try replace hc := nc hc) <;> first | (exfalso; first | contradiction | (first | omega | (simp at hc; done)); done) | skip))
    | ((with_reducible refine ex_on ?_); (refine ⟨xs.length - (k + 1), [.pointer (some ⟨2, 0, none⟩), jk, jk, jk, jk, .slice (some ⟨6, 0, none⟩) ts.length ts.length, jk, jk, jk, jk, jk, jk, jk, jk, jk, jk, .slice (some ⟨5, 0, none⟩) xs.length c3, .int .i64 (xs.length), .int .i64 (((k + 1 : Nat) : Int)), jk, jk, jk, jk, jk, jk, jk, jk, jk, jk, jk, jk, jk, jk, jk, jk, jk, jk, jk, jk, jk, jk, jk, jk, jk, jk, jk, jk, jk, jk, jk], mem6 l ts xs c c2 z0 z1 z2 z4 z5 ++ [some ⟨flatN (smL ts xs (k + 1)), true, 1⟩], by omega, ?_, k + 1, rfl, by omega, rfl, rfl⟩; have hs2 := hsn (k + 1); (first | rw [ha k (by omega) (by omega)] at hs2 ⊢ | rw [hb k (by omega) (by omega), flatN_set] at hs2 ⊢ | rw [hc1 k (by omega) (by omega), flatN_set] at hs2 ⊢ | rw [hd k (by omega) (by omega), flatN_set, flatN_set] at hs2 ⊢); exact Wk.keep 7 [] (by rw [hE]; exact Nat.le_of_ble_eq_true rfl) rfl rfl (by repeat (first | exact RenT.nil | refine RenT.jk ?_ | refine RenT.val (by first | rfl | with_reducible assumption | (simp only [rn3, rn2, rn1, kσ]; done)) (by first | rfl | assumption | (simp [ok3, ok2, ok1]; done)) ?_)) ⟨⟨_, rfl, rfl, rfl, .inl ⟨rfl, flatP_scal l⟩⟩, ⟨_, rfl, rfl, rfl, .inl ⟨rfl, flatT_scal ts⟩⟩, ⟨_, rfl, rfl, rfl, .inr ⟨rfl, rfl⟩⟩, ⟨_, rfl, rfl, rfl, .inl ⟨rfl, rfl⟩⟩, ⟨_, rfl, rfl, rfl, .inl ⟨rfl, flatP_scal _⟩⟩, ⟨_, rfl, rfl, rfl, .inl ⟨rfl, flatN_scal _⟩⟩, ⟨_, rfl, rfl, rfl, .inl ⟨rfl, hs2⟩⟩, trivial⟩))
    | ((with_reducible refine FinA.on ?_); (obtain rfl : k = xs.length := (by omega); refine FinA.keep 7 [] (.inl rfl) (.tmp wl .nil) ?_ rfl (by rw [hE]; exact Nat.le_of_ble_eq_true rfl) rfl rfl ⟨⟨_, rfl, rfl, rfl, .inl ⟨rfl, flatP_scal l⟩⟩, ⟨_, rfl, rfl, rfl, .inl ⟨rfl, flatT_scal ts⟩⟩, ⟨_, rfl, rfl, rfl, .inr ⟨rfl, rfl⟩⟩, ⟨_, rfl, rfl, rfl, .inl ⟨rfl, rfl⟩⟩, ⟨_, rfl, rfl, rfl, .inl ⟨rfl, flatP_scal _⟩⟩, ⟨_, rfl, rfl, rfl, .inl ⟨rfl, flatN_scal _⟩⟩, ⟨_, rfl, rfl, rfl, .inl ⟨rfl, flatN_scal _⟩⟩, trivial⟩; rfl)))
end Go.Proofs.Ytmohcmghbfhdlaa
end
end
/- Chapter 6: differences, sums, closures in a greater memory (the program's). -/
section
set_option linter.unusedSimpArgs false
set_option linter.unusedVariables false
section
namespace Go.Me
open Go.Ab Go.Proofs.Ytmohcmghbfhdlaa
def clK (A : List Int) : Nat → List Int
  | 0 => A
  | k + 1 => (clK A k).set k ((nt A k).tdiv 4096)
theorem clK_len (A : List Int) : ∀ k, (clK A k).length = A.length
  | 0 => rfl
  | k + 1 => by unfold clK; rw [List.length_set, clK_len A k]
theorem clK_nt (A : List Int) : ∀ (k i : Nat), i < A.length → nt (clK A k) i = if i < k then (nt A i).tdiv 4096 else nt A i
  | 0, i, _ => by rw [if_neg (Nat.not_lt_zero i)]; rfl
  | k + 1, i, hi => by
    unfold clK
    rw [nt_set (by rw [clK_len]; exact hi), clK_nt A k i hi]
    by_cases h : k = i
    · subst h; rw [if_pos rfl, if_pos (Nat.lt_succ_self _)]
    · rw [if_neg h]
      by_cases h2 : i < k
      · rw [if_pos h2, if_pos (by omega)]
      · rw [if_neg h2, if_neg (by omega)]
def sdL' (ts : List T3) (ph : List Int) : List Int := smL ts (dfL ts ph) (edL ts).length
def clL (ts : List T3) (ph : List Int) : List Int := clK (sdL' ts ph) ts.length
theorem sdL'_len (ts : List T3) (ph : List Int) : (sdL' ts ph).length = ts.length := smL_len _ _ _
theorem clL_len (ts : List T3) (ph : List Int) : (clL ts ph).length = ts.length := (clK_len _ _).trans (sdL'_len ts ph)
theorem clL_nt (ts : List T3) (ph : List Int) (i : Nat) (hi : i < ts.length) : nt (clL ts ph) i = (nt (sdL' ts ph) i).tdiv 4096 := by
  unfold clL
  rw [clK_nt _ _ _ (by rw [sdL'_len]; exact hi), if_pos hi]
theorem dfL_bd (ts : List T3) (ph : List Int) : ∀ k, k < (dfL ts ph).length → -2048 ≤ nt (dfL ts ph) k ∧ nt (dfL ts ph) k ≤ 2047 := fun k hk => by
  rw [dfL_nt (by rw [← dfL_len ts ph]; exact hk)]
  exact wrI_bd _
end Go.Me
namespace Go.Proofs.Ytmohcmghbfhdlaa
open Go Go.RowKit Go.Ab Go.Me
set_option maxRecDepth 100000
set_option maxHeartbeats 4000000
attribute [local irreducible] OQ OW AL AW AD AF SW
theorem phasesErr_q {m : Mem} {bN bL bE bP bT c c2 bF n c3 : Nat} {l : List Pn} {ts : List T3} {F : Blk} (h : OpenN m bN bL bE bP bT c c2 l ts) (ph : List Int) (hl : ph.length ≤ 1000000) (f1 : m.at bF = some F) (f2 : F.cells = flatN ph) (hn : ph.length = n) (f3 : F.obj = Ob.plain := by rfl) :
    PCalls Try.prog 70 [.pointer (some ⟨bN, 0, none⟩), .slice (some ⟨bF, 0, none⟩) n c3] m (.int .i64 (phE l ph)) := by
  subst hn
  obtain ⟨⟨A, a1, a2, a3⟩, ⟨B, b1, b2, b3⟩, ⟨N, n1, n2, n3⟩, ⟨own, l1⟩, ⟨D, d1, d2, d3⟩⟩ := h
  exact PCalls.viaS [bP, bT, bN, bL, bE, bF] (phasesErr_0 l ts ph c c2 c3 A.esz B.esz N.esz D.esz F.esz hl) (ro6p _ _ _ _ _ _ rfl rfl rfl rfl rfl rfl)
    ⟨⟨_, a1, by unfold Blk.shp Blk.shpR; rw [a3]; rfl, (fun h => nomatch h), .inl ⟨a2, flatP_scal _⟩⟩, ⟨_, b1, by unfold Blk.shp Blk.shpR; rw [b3]; rfl, (fun h => nomatch h), .inl ⟨b2, flatT_scal _⟩⟩, ⟨_, n1, by unfold Blk.shp Blk.shpR; rw [n3]; rfl, (fun h => nomatch h), .inr ⟨n2, rfl⟩⟩, ⟨_, l1, rfl, (fun h => nomatch h), .inl ⟨rfl, rfl⟩⟩, ⟨_, d1, by unfold Blk.shp Blk.shpR; rw [d3]; rfl, (fun h => nomatch h), .inl ⟨d2, flatP_scal _⟩⟩, ⟨_, f1, by unfold Blk.shp Blk.shpR; rw [f3]; rfl, (fun h => nomatch h), .inl ⟨f2, flatN_scal _⟩⟩, trivial⟩ rfl rfl rfl rfl
theorem differences_q {m : Mem} {bN bL bE bP bT c c2 bF n c3 : Nat} {l : List Pn} {ts : List T3} {F : Blk} (h : OpenN m bN bL bE bP bT c c2 l ts) (hR : NetR l ts) (ph : List Int) (hph : phE l ph = 0) (f1 : m.at bF = some F) (f2 : F.cells = flatN ph) (hn : ph.length = n) (hd : [bP, bT, bN, bL, bE, bF].Nodup) (f3 : F.obj = Ob.plain := by rfl) :
    ACalls Try.prog 50 [.pointer (some ⟨bN, 0, none⟩), .slice (some ⟨bF, 0, none⟩) n c3] m (.slice (some ⟨m.length, 0, none⟩) (edL ts).length INF) (m ++ [some ⟨flatN (dfL ts ph), true, 1⟩]) := by
  subst hn
  obtain ⟨⟨A, a1, a2, a3⟩, ⟨B, b1, b2, b3⟩, ⟨N, n1, n2, n3⟩, ⟨own, l1⟩, ⟨D, d1, d2, d3⟩⟩ := h
  have h := ACalls.viaS (m := m) (args := [.pointer (some ⟨bN, 0, none⟩), .slice (some ⟨bF, 0, none⟩) ph.length c3]) (v := .slice (some ⟨m.length, 0, none⟩) (edL ts).length INF) [bP, bT, bN, bL, bE, bF] [] [some ⟨flatN (dfL ts ph), true, 1⟩] (differences_0 l ts hR ph hph c c2 c3 A.esz B.esz N.esz D.esz F.esz)
    ⟨⟨_, a1, by unfold Blk.shp Blk.shpR; rw [a3]; rfl, (fun h => nomatch h), .inl ⟨a2, flatP_scal _⟩⟩, ⟨_, b1, by unfold Blk.shp Blk.shpR; rw [b3]; rfl, (fun h => nomatch h), .inl ⟨b2, flatT_scal _⟩⟩, ⟨_, n1, by unfold Blk.shp Blk.shpR; rw [n3]; rfl, (fun h => nomatch h), .inr ⟨n2, rfl⟩⟩, ⟨_, l1, rfl, (fun h => nomatch h), .inl ⟨rfl, rfl⟩⟩, ⟨_, d1, by unfold Blk.shp Blk.shpR; rw [d3]; rfl, (fun h => nomatch h), .inl ⟨d2, flatP_scal _⟩⟩, ⟨_, f1, by unfold Blk.shp Blk.shpR; rw [f3]; rfl, (fun h => nomatch h), .inl ⟨f2, flatN_scal _⟩⟩, trivial⟩ hd
    ⟨⟨_, rfl, rfl⟩, ⟨_, rfl, rfl⟩, ⟨_, rfl, rfl⟩, ⟨_, rfl, rfl⟩, ⟨_, rfl, rfl⟩, ⟨_, rfl, rfl⟩, ⟨rfl, rfl, rfl, .inl ⟨rfl, flatN_scal _⟩⟩, trivial⟩ rfl rfl rfl rfl
  exact h
theorem sums_q {m : Mem} {bN bL bE bP bT c c2 bF n c3 : Nat} {l : List Pn} {ts : List T3} {F : Blk} (h : OpenN m bN bL bE bP bT c c2 l ts) (hR : NetR l ts) (xs : List Int) (hxl : xs.length = (edL ts).length) (hx : ∀ k, k < xs.length → -1000000000 ≤ nt xs k ∧ nt xs k ≤ 1000000000) (f1 : m.at bF = some F) (f2 : F.cells = flatN xs) (hn : xs.length = n) (hd : [bP, bT, bN, bL, bE, bF].Nodup) (f3 : F.obj = Ob.plain := by rfl) :
    ACalls Try.prog 72 [.pointer (some ⟨bN, 0, none⟩), .slice (some ⟨bF, 0, none⟩) n c3] m (.slice (some ⟨m.length, 0, none⟩) ts.length ts.length) (m ++ [some ⟨flatN (smL ts xs (edL ts).length), true, 1⟩]) := by
  subst hn
  obtain ⟨⟨A, a1, a2, a3⟩, ⟨B, b1, b2, b3⟩, ⟨N, n1, n2, n3⟩, ⟨own, l1⟩, ⟨D, d1, d2, d3⟩⟩ := h
  rw [← hxl]
  have h := ACalls.viaS (m := m) (args := [.pointer (some ⟨bN, 0, none⟩), .slice (some ⟨bF, 0, none⟩) xs.length c3]) (v := .slice (some ⟨m.length, 0, none⟩) ts.length ts.length) [bP, bT, bN, bL, bE, bF] [] [some ⟨flatN (smL ts xs xs.length), true, 1⟩] (sums_0 l ts hR xs hxl hx c c2 c3 A.esz B.esz N.esz D.esz F.esz)
    ⟨⟨_, a1, by unfold Blk.shp Blk.shpR; rw [a3]; rfl, (fun h => nomatch h), .inl ⟨a2, flatP_scal _⟩⟩, ⟨_, b1, by unfold Blk.shp Blk.shpR; rw [b3]; rfl, (fun h => nomatch h), .inl ⟨b2, flatT_scal _⟩⟩, ⟨_, n1, by unfold Blk.shp Blk.shpR; rw [n3]; rfl, (fun h => nomatch h), .inr ⟨n2, rfl⟩⟩, ⟨_, l1, rfl, (fun h => nomatch h), .inl ⟨rfl, rfl⟩⟩, ⟨_, d1, by unfold Blk.shp Blk.shpR; rw [d3]; rfl, (fun h => nomatch h), .inl ⟨d2, flatP_scal _⟩⟩, ⟨_, f1, by unfold Blk.shp Blk.shpR; rw [f3]; rfl, (fun h => nomatch h), .inl ⟨f2, flatN_scal _⟩⟩, trivial⟩ hd
    ⟨⟨_, rfl, rfl⟩, ⟨_, rfl, rfl⟩, ⟨_, rfl, rfl⟩, ⟨_, rfl, rfl⟩, ⟨_, rfl, rfl⟩, ⟨_, rfl, rfl⟩, ⟨rfl, rfl, rfl, .inl ⟨rfl, flatN_scal _⟩⟩, trivial⟩ rfl rfl rfl rfl
  exact h
theorem closures_0 (l : List Pn) (ts : List T3) (hR : NetR l ts) (ph : List Int) (hph : phE l ph = 0) (c c2 c3 z0 z1 z2 z4 z5 : Nat) :
    ACalls Try.prog 67 [.pointer (some ⟨2, 0, none⟩), .slice (some ⟨5, 0, none⟩) ph.length c3] [some ⟨flatP l, false, z0⟩, some ⟨flatT ts, false, z1⟩, some ⟨[.slice (some ⟨0, 0, none⟩) l.length c, .slice (some ⟨1, 0, none⟩) ts.length c2, .slice (some ⟨4, 0, none⟩) (edL ts).length INF, .map (some 3)], false, z2⟩, some (mpX (lfA ts) false 0), some ⟨flatP (edL ts), false, z4⟩, some ⟨flatN ph, false, z5⟩]
      (.slice (some ⟨6, 0, none⟩) ts.length ts.length) [some ⟨flatP l, false, z0⟩, some ⟨flatT ts, false, z1⟩, some ⟨[.slice (some ⟨0, 0, none⟩) l.length c, .slice (some ⟨1, 0, none⟩) ts.length c2, .slice (some ⟨4, 0, none⟩) (edL ts).length INF, .map (some 3)], false, z2⟩, some (mpX (lfA ts) false 0), some ⟨flatP (edL ts), false, z4⟩, some ⟨flatN ph, false, z5⟩, some ⟨flatN (clL ts ph), true, 1⟩] := by
  have hdl := dfL_len ts ph
  have hdb := dfL_bd ts ph
  have hdi := fun (m : Mem) (h : OpenN m 2 3 4 0 1 c c2 l ts) (F : Blk) (f1 : m.at 5 = some F) (f2 : F.cells = flatN ph) (f3 : F.obj = Ob.plain) => differences_q (n := ph.length) (c3 := c3) h hR ph hph f1 f2 rfl (by decide) f3
  have hsu := fun (m : Mem) (h : OpenN m 2 3 4 0 1 c c2 l ts) (F : Blk) (f1 : m.at 6 = some F) (f2 : F.cells = flatN (dfL ts ph)) (f3 : F.obj = Ob.plain) => sums_q (n := (edL ts).length) (c3 := INF) h hR (dfL ts ph) hdl (fun k hk => by have := hdb k hk; omega) f1 f2 hdl (by decide) f3
  have h80 := hR.le
  have hle := edL_le ts
  have hSb : ∀ k, k < ts.length → -600000000000 ≤ nt (sdL' ts ph) k ∧ nt (sdL' ts ph) k ≤ 600000000000 := fun k hk => by
    have := smL_bd (ts := ts) (xs := dfL ts ph) (fun k hk => by have := hdb k hk; omega) (edL ts).length (by omega) k hk
    unfold sdL'
    omega
  change ∀ m, _ → ∀ F, _ → _ → _ → ACalls _ _ _ m _ (m ++ [some ⟨flatN (sdL' ts ph), true, 1⟩]) at hsu
  have hcl : clL ts ph = clK (sdL' ts ph) ts.length := rfl
  have hlen := sdL'_len ts ph
  rw [hcl]
  generalize sdL' ts ph = S at *
  have h0 : clK S 0 = S := rfl
  have hfl : ∀ k, (flatN (clK S k)).length = ts.length := fun k => by rw [flatN_len, clK_len, hlen]
  have hg : ∀ k, k < ts.length → (flatN (clK S k))[k]? = some (.int .i64 (nt S k)) := fun k hk => by
    rw [flatN_get _ k (by rw [clK_len, hlen]; exact hk), clK_nt S k k (by rw [hlen]; exact hk), if_neg (by omega)]
  have hst : ∀ k, flatN (clK S (k + 1)) = (flatN (clK S k)).set k (.int .i64 ((nt S k).tdiv 4096)) := fun k => flatN_set _ _ _
  have hsn := fun k => flatN_scal (clK S k)
  have htd : ∀ k, k < ts.length → -9223372036854775808 ≤ (nt S k).tdiv 4096 ∧ (nt S k).tdiv 4096 ≤ 9223372036854775807 := fun k hk => by
    have := hSb k hk
    have h1 := Int.tdiv_le_tdiv (c := 4096) (by decide) this.1
    have h2 := Int.tdiv_le_tdiv (c := 4096) (by decide) this.2
    rw [show (-600000000000 : Int).tdiv 4096 = -146484375 by decide] at h1
    rw [show (600000000000 : Int).tdiv 4096 = 146484375 by decide] at h2
    omega
  refine ACalls.enter (t := [.pointer (some ⟨2, 0, none⟩), .slice (some ⟨5, 0, none⟩) ph.length c3, undef, undef, undef, undef, undef, undef, undef, undef, undef, undef, undef, undef, undef, undef, undef, undef, undef, undef, undef, undef, undef, undef, undef]) Try.func67 rfl rfl fun E hE => ?_
  repeat' (first
    | with_reducible (first | refine Then.n ?_ | refine Then.r ?_ | refine Then.x ?_ | refine InB.n ?_ | refine InB.r ?_ | refine InB.hit ?_ | refine InB.miss (by decide) ?_)
    | ((with_reducible refine AL.on ?_); first
      | ((first | ((with_reducible refine AL.k_move ?_); first | (refine AL.q rfl (OQ.move wl) ?_)) | ((with_reducible refine AL.k_assign ?_); first | (refine AL.q rfl (OQ.assign wl) ?_)) | ((with_reducible refine AL.k_call ?_); first | refine AL.q rfl (OQ.lenS (xt := 29) (r := (none, 1, false)) rfl kr) ?_) | ((with_reducible refine AL.k_binOp ?_); first | refine AL.q rfl (OQ.lss rfl rfl) ?_ | refine AL.q rfl (OQ.quoi rfl rfl (by omega) (by exact htd k (by omega))) ?_ | refine AL.q rfl (OQ.quo rfl rfl (by omega)) ?_ | refine AL.q rfl (OQ.addi rfl rfl (by omega)) ?_ | refine AL.q rfl (OQ.add rfl rfl) ?_) | ((with_reducible refine AL.k_load ?_); first | (refine AL.q rfl (OQ.load1 (ty := 3) rfl kr (by first | (first | exact hg k (by omega)) | (conv => lhs; whnf))) ?_))); (refine AL.nm ?_))
      | ((first | first | refine AL.q rfl (OQ.idxAddr (ty := 29) (z := 1) (g := false) rfl rfl kr (by first | omega | decide) (by first | omega | decide)) ?_); (refine AL.nm ?_))
      | ((first | ((with_reducible refine AL.k_call ?_); first | refine AL.acall (g := 50) rfl kr rfl ((by exact hdi _ ⟨⟨_, rfl, rfl, rfl⟩, ⟨_, rfl, rfl, rfl⟩, ⟨_, rfl, rfl, rfl⟩, ⟨_, rfl⟩, ⟨_, rfl, rfl, rfl⟩⟩ _ rfl rfl rfl)) ?_ | refine AL.acall (g := 72) rfl kr rfl ((by exact hsu _ ⟨⟨_, rfl, rfl, rfl⟩, ⟨_, rfl, rfl, rfl⟩, ⟨_, rfl, rfl, rfl⟩, ⟨_, rfl⟩, ⟨_, rfl, rfl, rfl⟩⟩ _ rfl rfl rfl)) ?_) | ((with_reducible refine AL.k_store ?_); first | (refine AL.w rfl (OW.store (ty := 3) (n := 1) rfl wl rfl rfl kr rfl rfl (by decide) rfl (by first | exact Nat.le_of_ble_eq_true rfl | ((first | (simp only [List.length_set, hfl]; omega) | (simp [hfl]; omega)))) (by intro r h; cases h)) ?_))); (refine AL.nm ?_); (refine AL.nM ?_))
      | refine AL.nil ?_)
    | ((with_reducible refine AW.on ?_); first
      | refine AW.seq ?_
      | refine AW.skip ?_
      | refine AW.exit ?_
      | refine AW.ret ?_
      | ((refine AW.block (id := 0) ?_); (refine AW.fk [5, 13, 14] ?_); (refine (AW.wk (t' := [jk, jk, jk, jk, jk, .slice (some ⟨6, 0, none⟩) ts.length ts.length, jk, jk, jk, jk, jk, jk, jk, .int .i64 (ts.length), .int .i64 0, jk, jk, jk, jk, jk, jk, jk, jk, jk, jk]) (m' := [some ⟨flatP l, false, z0⟩, some ⟨flatT ts, false, z1⟩, some ⟨[.slice (some ⟨0, 0, none⟩) l.length c, .slice (some ⟨1, 0, none⟩) ts.length c2, .slice (some ⟨4, 0, none⟩) (edL ts).length INF, .map (some 3)], false, z2⟩, some (mpX (lfA ts) false 0), some ⟨flatP (edL ts), false, z4⟩, some ⟨flatN ph, false, z5⟩, some ⟨flatN (clK S 0), true, 1⟩]) (Wk.keep 6 [7] (by rw [hE]; exact Nat.le_of_ble_eq_true rfl) rfl rfl (by repeat (first | exact RenT.nil | refine RenT.jk ?_ | refine RenT.val (by first | rfl | with_reducible assumption | (simp only [rn3, rn2, rn1, kσ]; done)) (by first | rfl | assumption | (simp [ok3, ok2, ok1]; done)) ?_)) ⟨⟨_, rfl, rfl, rfl, .inl ⟨rfl, flatP_scal l⟩⟩, ⟨_, rfl, rfl, rfl, .inl ⟨rfl, flatT_scal ts⟩⟩, ⟨_, rfl, rfl, rfl, .inr ⟨rfl, rfl⟩⟩, ⟨_, rfl, rfl, rfl, .inl ⟨rfl, rfl⟩⟩, ⟨_, rfl, rfl, rfl, .inl ⟨rfl, flatP_scal _⟩⟩, ⟨_, rfl, rfl, rfl, .inl ⟨rfl, flatN_scal _⟩⟩, ⟨_, rfl, rfl, rfl, .inl ⟨rfl, flatN_scal _⟩⟩, trivial⟩) ?_)); (refine AW.loop (fun n' t' m => ∃ k : Nat, n' = ts.length - k ∧ k ≤ ts.length ∧ t' = [jk, jk, jk, jk, jk, .slice (some ⟨6, 0, none⟩) ts.length ts.length, jk, jk, jk, jk, jk, jk, jk, .int .i64 (ts.length), .int .i64 (k), jk, jk, jk, jk, jk, jk, jk, jk, jk, jk] ∧ m = mem6 l ts ph c c2 z0 z1 z2 z4 z5 ++ [some ⟨flatN (clK S k), true, 1⟩]) (ts.length) (by exact ⟨0, rfl, Nat.zero_le _, rfl, rfl⟩) ?_); (rintro n' t' m ⟨k, rfl, hk, rfl, rfl⟩))
      | refine AW.block ?_
      | refine AW.region ?_
      | (refine AW.conds rfl (fun hc => ?_) (fun hc => ?_) <;> (try replace hc := nc hc) <;> first | (exfalso; first | contradiction | (first | omega | (simp at hc; done)); done) | skip))
    | ((with_reducible refine ex_on ?_); (have hs2 := hsn (k + 1); refine ⟨ts.length - (k + 1), [jk, jk, jk, jk, jk, .slice (some ⟨6, 0, none⟩) ts.length ts.length, jk, jk, jk, jk, jk, jk, jk, .int .i64 (ts.length), .int .i64 (((k + 1 : Nat) : Int)), jk, jk, jk, jk, jk, jk, jk, jk, jk, jk], mem6 l ts ph c c2 z0 z1 z2 z4 z5 ++ [some ⟨flatN (clK S (k + 1)), true, 1⟩], by omega, ?_, k + 1, rfl, by omega, rfl, rfl⟩; rw [hst k] at hs2 ⊢; exact Wk.keep 7 [] (by rw [hE]; exact Nat.le_of_ble_eq_true rfl) rfl rfl (by repeat (first | exact RenT.nil | refine RenT.jk ?_ | refine RenT.val (by first | rfl | with_reducible assumption | (simp only [rn3, rn2, rn1, kσ]; done)) (by first | rfl | assumption | (simp [ok3, ok2, ok1]; done)) ?_)) ⟨⟨_, rfl, rfl, rfl, .inl ⟨rfl, flatP_scal l⟩⟩, ⟨_, rfl, rfl, rfl, .inl ⟨rfl, flatT_scal ts⟩⟩, ⟨_, rfl, rfl, rfl, .inr ⟨rfl, rfl⟩⟩, ⟨_, rfl, rfl, rfl, .inl ⟨rfl, rfl⟩⟩, ⟨_, rfl, rfl, rfl, .inl ⟨rfl, flatP_scal _⟩⟩, ⟨_, rfl, rfl, rfl, .inl ⟨rfl, flatN_scal _⟩⟩, ⟨_, rfl, rfl, rfl, .inl ⟨rfl, hs2⟩⟩, trivial⟩))
    | ((with_reducible refine FinA.on ?_); (obtain rfl : k = ts.length := (by omega); refine FinA.keep 7 [] (.inl rfl) (.tmp wl .nil) ?_ rfl (by rw [hE]; exact Nat.le_of_ble_eq_true rfl) rfl rfl ⟨⟨_, rfl, rfl, rfl, .inl ⟨rfl, flatP_scal l⟩⟩, ⟨_, rfl, rfl, rfl, .inl ⟨rfl, flatT_scal ts⟩⟩, ⟨_, rfl, rfl, rfl, .inr ⟨rfl, rfl⟩⟩, ⟨_, rfl, rfl, rfl, .inl ⟨rfl, rfl⟩⟩, ⟨_, rfl, rfl, rfl, .inl ⟨rfl, flatP_scal _⟩⟩, ⟨_, rfl, rfl, rfl, .inl ⟨rfl, flatN_scal _⟩⟩, ⟨_, rfl, rfl, rfl, .inl ⟨rfl, flatN_scal _⟩⟩, trivial⟩; rfl)))
theorem closures_q {m : Mem} {bN bL bE bP bT c c2 bF n c3 : Nat} {l : List Pn} {ts : List T3} {F : Blk} (h : OpenN m bN bL bE bP bT c c2 l ts) (hR : NetR l ts) (ph : List Int) (hph : phE l ph = 0) (f1 : m.at bF = some F) (f2 : F.cells = flatN ph) (hn : ph.length = n) (hd : [bP, bT, bN, bL, bE, bF].Nodup) (f3 : F.obj = Ob.plain := by rfl) :
    ACalls Try.prog 67 [.pointer (some ⟨bN, 0, none⟩), .slice (some ⟨bF, 0, none⟩) n c3] m (.slice (some ⟨m.length, 0, none⟩) ts.length ts.length) (m ++ [some ⟨flatN (clL ts ph), true, 1⟩]) := by
  subst hn
  obtain ⟨⟨A, a1, a2, a3⟩, ⟨B, b1, b2, b3⟩, ⟨N, n1, n2, n3⟩, ⟨own, l1⟩, ⟨D, d1, d2, d3⟩⟩ := h
  have h := ACalls.viaS (m := m) (args := [.pointer (some ⟨bN, 0, none⟩), .slice (some ⟨bF, 0, none⟩) ph.length c3]) (v := .slice (some ⟨m.length, 0, none⟩) ts.length ts.length) [bP, bT, bN, bL, bE, bF] [] [some ⟨flatN (clL ts ph), true, 1⟩] (closures_0 l ts hR ph hph c c2 c3 A.esz B.esz N.esz D.esz F.esz)
    ⟨⟨_, a1, by unfold Blk.shp Blk.shpR; rw [a3]; rfl, (fun h => nomatch h), .inl ⟨a2, flatP_scal _⟩⟩, ⟨_, b1, by unfold Blk.shp Blk.shpR; rw [b3]; rfl, (fun h => nomatch h), .inl ⟨b2, flatT_scal _⟩⟩, ⟨_, n1, by unfold Blk.shp Blk.shpR; rw [n3]; rfl, (fun h => nomatch h), .inr ⟨n2, rfl⟩⟩, ⟨_, l1, rfl, (fun h => nomatch h), .inl ⟨rfl, rfl⟩⟩, ⟨_, d1, by unfold Blk.shp Blk.shpR; rw [d3]; rfl, (fun h => nomatch h), .inl ⟨d2, flatP_scal _⟩⟩, ⟨_, f1, by unfold Blk.shp Blk.shpR; rw [f3]; rfl, (fun h => nomatch h), .inl ⟨f2, flatN_scal _⟩⟩, trivial⟩ hd
    ⟨⟨_, rfl, rfl⟩, ⟨_, rfl, rfl⟩, ⟨_, rfl, rfl⟩, ⟨_, rfl, rfl⟩, ⟨_, rfl, rfl⟩, ⟨_, rfl, rfl⟩, ⟨rfl, rfl, rfl, .inl ⟨rfl, flatN_scal _⟩⟩, trivial⟩ rfl rfl rfl rfl
  exact h
end Go.Proofs.Ytmohcmghbfhdlaa
end
end
/- Chapter 6: openPhases, turnsErr (the program's). -/
section
set_option linter.unusedSimpArgs false
set_option linter.unusedVariables false
section
namespace Go.Proofs.Ytmohcmghbfhdlaa
open Go Go.RowKit Go.Ab Go.Me
set_option maxRecDepth 100000
set_option maxHeartbeats 4000000
attribute [local irreducible] OQ OW AL AW AD AF SW
theorem openPhases_y0 (l : List Pn) (ts : List T3) (ph : List Int) (c c2 c3 z z1 z2 : Nat) (hz : z = 0 ∨ z = 2) (hl : ph.length ≤ 1000000) (hR : NetR l ts) : ACalls Try.prog 48 [.agg #[.slice (some ⟨0, 0, none⟩) l.length c, .slice (some ⟨1, 0, none⟩) ts.length c2], .slice (some ⟨2, 0, none⟩) ph.length c3] [some ⟨flatP l, false, z⟩, some ⟨flatT ts, false, z1⟩, some ⟨flatN ph, false, z2⟩] (.tuple #[.pointer (some ⟨3, 0, none⟩), .int .i64 (phE l ph)]) [some ⟨flatP l, false, z⟩, some ⟨flatT ts, false, z1⟩, some ⟨flatN ph, false, z2⟩, some ⟨[.slice (some ⟨0, 0, none⟩) l.length c, .slice (some ⟨1, 0, none⟩) ts.length c2, .slice (some ⟨5, 0, none⟩) (edL ts).length INF, .map (some 4)], true, 0⟩, some (mpX (lfA ts) true 0), some ⟨flatP (edL ts), true, 2⟩] := by
  have hy := fun (m : Mem) (hA : ArgN m 0 1 l ts) => open_y (c := c) (c2 := c2) l ts hA rfl rfl hR
  have hp := fun (m : Mem) (h : OpenN m 4 5 6 0 1 c c2 l ts) (F : Blk) (f1 : m.at 2 = some F) (f2 : F.cells = flatN ph) (f3 : F.obj = Ob.plain) => phasesErr_q (n := ph.length) (c3 := c3) h ph hl f1 f2 rfl f3
  generalize phE l ph = E0 at *
  refine ACalls.enter (t := [.agg #[.slice (some ⟨0, 0, none⟩) l.length c, .slice (some ⟨1, 0, none⟩) ts.length c2], .slice (some ⟨2, 0, none⟩) ph.length c3, undef, undef, undef, undef, undef, undef, undef, undef, undef, undef, undef, undef, undef, undef, undef, undef, undef, undef, undef, undef]) Try.func48 rfl rfl fun E hE => ?_
  repeat' (first
    | with_reducible (first | refine Then.n ?_ | refine Then.r ?_ | refine Then.x ?_ | refine InB.n ?_ | refine InB.r ?_ | refine InB.hit ?_ | refine InB.miss (by decide) ?_)
    | ((with_reducible refine AL.on ?_); first
      | ((first | ((with_reducible refine AL.k_assign ?_); first | (refine AL.q rfl (OQ.assign wl) ?_)) | ((with_reducible refine AL.k_move ?_); first | (refine AL.q rfl (OQ.move wl) ?_)) | ((with_reducible refine AL.k_extract ?_); first | refine AL.q rfl (OQ.extract rfl rfl) ?_) | ((with_reducible refine AL.k_load ?_); first | refine AL.q rfl (OQ.loadN (ty := 38) (n := 2) rfl kr kr rfl) ?_) | ((with_reducible refine AL.k_binOp ?_); first | refine AL.q rfl (OQ.eql rfl rfl) ?_)); (refine AL.nm ?_))
      | ((first | first | refine AL.pcall (g := 70) rfl kr rfl ((by exact hp _ ⟨⟨_, rfl, rfl, rfl⟩, ⟨_, rfl, rfl, rfl⟩, ⟨_, rfl, rfl, rfl⟩, ⟨_, rfl⟩, ⟨_, rfl, rfl, rfl⟩⟩ _ rfl rfl rfl)) ?_); (refine AL.nm ?_))
      | ((first | ((with_reducible refine AL.k_call ?_); first | refine AL.acall (g := 35) rfl kr rfl ((by exact hy _ ⟨⟨_, rfl, rfl, hz, rfl⟩, ⟨_, rfl, rfl, rfl⟩, by decide⟩)) ?_) | ((with_reducible refine AL.k_box ?_); first | (refine AL.w rfl (OW.box wl (by intro r h; cases h)) ?_))); (refine AL.nm ?_); (refine AL.nM ?_))
      | refine AL.nil ?_)
    | ((with_reducible refine AW.on ?_); first
      | refine AW.seq ?_
      | refine AW.skip ?_
      | refine AW.exit ?_
      | refine AW.ret ?_
      | refine AW.block ?_
      | refine AW.region ?_
      | (refine AW.conds rfl (fun hc => ?_) (fun hc => ?_) <;> (try replace hc := nc hc) <;> first | (exfalso; first | contradiction | (first | omega | (simp at hc; done) | (simp at hc; omega)); done) | skip))
    | ((with_reducible refine FinA.on ?_); (refine FinA.keep 3 [4, 5, 6] (.inl rfl) (.tmp wl (.tmp wl .nil)) ?_ rfl (Nat.le_of_eq hE) rfl rfl ⟨⟨_, rfl, rfl, rfl, .inl ⟨rfl, flatP_scal l⟩⟩, ⟨_, rfl, rfl, rfl, .inl ⟨rfl, flatT_scal ts⟩⟩, ⟨_, rfl, rfl, rfl, .inl ⟨rfl, flatN_scal _⟩⟩, ⟨_, rfl, rfl, rfl, .inr ⟨rfl, rfl⟩⟩, ⟨_, rfl, rfl, rfl, .inl ⟨rfl, rfl⟩⟩, ⟨_, rfl, rfl, rfl, .inl ⟨rfl, flatP_scal _⟩⟩, trivial⟩; rfl)))
theorem openPhases_y {m : Mem} {bP bT bF n k j c c2 c3 : Nat} {F : Blk} (l : List Pn) (ts : List T3) (ph : List Int) (hA : ArgN m bP bT l ts) (hn : l.length = n) (hk : ts.length = k) (f1 : m.at bF = some F) (f2 : F.cells = flatN ph) (hj : ph.length = j) (hl : ph.length ≤ 1000000) (hR : NetR l ts) (hd : [bP, bT, bF].Nodup) (f3 : F.obj = Ob.plain := by rfl) :
    ACalls Try.prog 48 [.agg #[.slice (some ⟨bP, 0, none⟩) n c, .slice (some ⟨bT, 0, none⟩) k c2], .slice (some ⟨bF, 0, none⟩) j c3] m (.tuple #[.pointer (some ⟨m.length, 0, none⟩), .int .i64 (phE l ph)]) (m ++ netM m.length bP bT n c k c2 ts) := by
  subst hn hk hj
  obtain ⟨⟨A, h1, h2, h3, h4⟩, ⟨B, h5, h6, h7⟩, hne⟩ := hA
  have h := ACalls.viaS (m := m) (args := [.agg #[.slice (some ⟨bP, 0, none⟩) l.length c, .slice (some ⟨bT, 0, none⟩) ts.length c2], .slice (some ⟨bF, 0, none⟩) ph.length c3]) (v := .tuple #[.pointer (some ⟨m.length, 0, none⟩), .int .i64 (phE l ph)]) [bP, bT, bF] [] (netM m.length bP bT l.length c ts.length c2 ts) (openPhases_y0 l ts ph c c2 c3 A.esz B.esz F.esz h3 hl hR) ⟨⟨_, h1, by unfold Blk.shp Blk.shpR; rw [h4]; rfl, (fun h => nomatch h), .inl ⟨h2, flatP_scal _⟩⟩, ⟨_, h5, by unfold Blk.shp Blk.shpR; rw [h7]; rfl, (fun h => nomatch h), .inl ⟨h6, flatT_scal _⟩⟩, ⟨_, f1, by unfold Blk.shp Blk.shpR; rw [f3]; rfl, (fun h => nomatch h), .inl ⟨f2, flatN_scal _⟩⟩, trivial⟩ hd ?_ rfl rfl rfl rfl
  · exact h
  · exact ⟨⟨_, rfl, rfl⟩, ⟨_, rfl, rfl⟩, ⟨_, rfl, rfl⟩, ⟨rfl, rfl, rfl, .inr ⟨rfl, rfl⟩⟩, ⟨rfl, rfl, rfl, .inl ⟨rfl, rfl⟩⟩, ⟨rfl, rfl, rfl, .inl ⟨rfl, flatP_scal _⟩⟩, trivial⟩
end Go.Proofs.Ytmohcmghbfhdlaa
end
end
/- Chapter 6: the error of turns (the program's). -/
section
set_option linter.unusedSimpArgs false
set_option linter.unusedVariables false
section
namespace Go.Me
open Go.Ab Go.Proofs.Ytmohcmghbfhdlaa
def tuT (ts : List T3) (ph xs : List Int) (i : Nat) : Int := nt (smL ts xs (edL ts).length) i + nt (clL ts ph) i
def tuE (ts : List T3) (ph xs : List Int) : Int := if xs.length ≠ (edL ts).length then 10 else if xs.any (fun x => !rgB x (-100) 100) = true then 2 else if fstN (tuT ts ph xs) ts.length ≠ -1 then 21 else 0
def tuI (ts : List T3) (ph xs : List Int) : Int := if xs.length ≠ (edL ts).length then 0 else if xs.any (fun x => !rgB x (-100) 100) = true then 0 else if fstN (tuT ts ph xs) ts.length ≠ -1 then fstN (tuT ts ph xs) ts.length else 0
theorem anyR_no {xs : List Int} {a b : Int} (h : xs.any (fun x => !rgB x a b) = false) : ∀ k, k < xs.length → a ≤ nt xs k ∧ nt xs k ≤ b := fun k hk => by
  have h2 := List.any_eq_false.1 h (nt xs k) (by unfold nt; rw [List.getD_eq_getElem?_getD, List.getElem?_eq_getElem hk]; exact List.getElem_mem hk)
  have h3 : rgB (nt xs k) a b = true := by
    cases hq : rgB (nt xs k) a b with
    | true => rfl
    | false => exfalso; apply h2; simp only [hq]; rfl
  exact rgB_true.1 h3
theorem tu_10 {ts : List T3} {ph xs : List Int} (h : xs.length ≠ (edL ts).length) : tuE ts ph xs = 10 ∧ tuI ts ph xs = 0 := ⟨if_pos h, if_pos h⟩
theorem tu_2 {ts : List T3} {ph xs : List Int} (h : xs.length = (edL ts).length) (h2 : xs.any (fun x => !rgB x (-100) 100) = true) : tuE ts ph xs = 2 ∧ tuI ts ph xs = 0 :=
  ⟨(if_neg (fun h3 : xs.length ≠ _ => h3 h)).trans (if_pos h2), (if_neg (fun h3 : xs.length ≠ _ => h3 h)).trans (if_pos h2)⟩
theorem tu_21 {ts : List T3} {ph xs : List Int} (h : xs.length = (edL ts).length) (h2 : xs.any (fun x => !rgB x (-100) 100) = false) (k : Nat) (hk : k < ts.length) (hj : ∀ j, j < k → tuT ts ph xs j = 0) (he : tuT ts ph xs k ≠ 0) : tuE ts ph xs = 21 ∧ tuI ts ph xs = k := by
  have h4 := fstN_yes hj he ts.length hk
  have h5 : ¬(xs.any (fun x => !rgB x (-100) 100) = true) := by rw [h2]; decide
  exact ⟨(if_neg (fun h3 : xs.length ≠ _ => h3 h)).trans ((if_neg h5).trans (if_pos (by omega))), (if_neg (fun h3 : xs.length ≠ _ => h3 h)).trans ((if_neg h5).trans ((if_pos (by omega)).trans h4))⟩
theorem tu_0 {ts : List T3} {ph xs : List Int} (h : xs.length = (edL ts).length) (h2 : xs.any (fun x => !rgB x (-100) 100) = false) (hj : ∀ j, j < ts.length → tuT ts ph xs j = 0) : tuE ts ph xs = 0 ∧ tuI ts ph xs = 0 := by
  have h4 := fstN_no _ hj
  have h5 : ¬(xs.any (fun x => !rgB x (-100) 100) = true) := by rw [h2]; decide
  exact ⟨(if_neg (fun h3 : xs.length ≠ _ => h3 h)).trans ((if_neg h5).trans (if_neg (fun h => h h4))), (if_neg (fun h3 : xs.length ≠ _ => h3 h)).trans ((if_neg h5).trans (if_neg (fun h => h h4)))⟩
theorem clL_bd {l : List Pn} {ts : List T3} (hR : NetR l ts) (ph : List Int) (k : Nat) (hk : k < ts.length) : -600000000000 ≤ nt (clL ts ph) k ∧ nt (clL ts ph) k ≤ 600000000000 := by
  have h80 := hR.le
  have hle := edL_le ts
  have hdl := dfL_len ts ph
  have hdb := dfL_bd ts ph
  have := smL_bd (ts := ts) (xs := dfL ts ph) (fun k hk => by have := hdb k hk; omega) (edL ts).length (by omega) k hk
  rw [clL_nt _ _ _ hk]
  unfold sdL'
  have h1 := Int.tdiv_le_tdiv (c := 4096) (by decide) (show (-600000000000 : Int) ≤ nt (smL ts (dfL ts ph) (edL ts).length) k by omega)
  have h2 := Int.tdiv_le_tdiv (c := 4096) (by decide) (show nt (smL ts (dfL ts ph) (edL ts).length) k ≤ (600000000000 : Int) by omega)
  rw [show (-600000000000 : Int).tdiv 4096 = -146484375 by decide] at h1
  rw [show (600000000000 : Int).tdiv 4096 = 146484375 by decide] at h2
  omega
end Go.Me
namespace Go.Proofs.Ytmohcmghbfhdlaa
open Go Go.RowKit Go.Ab Go.Me
set_option maxRecDepth 100000
set_option maxHeartbeats 4000000
attribute [local irreducible] OQ OW AL AW AD AF SW
theorem offTu_q (n : Int) (m : Mem) : PCalls Try.prog 71 [.int .i64 n] m (.bool (!rgB n (-100) 100)) := by
  refine PCalls.any ?_ rfl rfl m
  have hw := fun m => within_q n (-100) 100 m
  refine PCalls.enter (t := [.int .i64 n, undef, undef, undef, undef, undef]) Try.func71 rfl (ro_nil) rfl fun E => ?_
  repeat' (first
    | with_reducible (first | refine Then.n ?_ | refine Then.r ?_ | refine Then.x ?_ | refine InB.n ?_ | refine InB.r ?_ | refine InB.hit ?_ | refine InB.miss (by decide) ?_)
    | ((with_reducible refine AL.on ?_); first
      | ((first | ((with_reducible refine AL.k_assign ?_); first | (refine AL.q rfl (OQ.assign wl) ?_)) | ((with_reducible refine AL.k_move ?_); first | (refine AL.q rfl (OQ.move wl) ?_)) | ((with_reducible refine AL.k_unOp ?_); first | refine AL.q rfl (OQ.not rfl) ?_)); (refine AL.nm ?_))
      | ((first | first | refine AL.pcall (g := 46) rfl kr rfl (hw _) ?_); (refine AL.nm ?_))
      | refine AL.nil ?_)
    | ((with_reducible refine AW.on ?_); first
      | refine AW.seq ?_
      | refine AW.skip ?_
      | refine AW.exit ?_
      | refine AW.ret ?_
      | refine AW.block ?_
      | refine AW.region ?_
      | (refine AW.conds rfl (fun hc => ?_) (fun hc => ?_) <;> (try replace hc := nc hc) <;> first | (exfalso; first | contradiction | (omega); done) | skip))
    | ((with_reducible refine FinP.on ?_); (first | refine FinP.ret (.tmp wl .nil) ?_ rfl | refine FinP.end (.tmp wl .nil) ?_ rfl); (try simp only [pack, List.drop, List.take]); all_goals (rfl)))
theorem ro7p (a b c d e f g : Blk) (h1 : a.own = false) (h2 : b.own = false) (h3 : c.own = false) (h4 : d.own = false) (h5 : e.own = false) (h6 : f.own = false) (h7 : g.own = false) : Mem.ro [some a, some b, some c, some d, some e, some f, some g] := fun k blk hk => by
  match k, hk with
  | 0, hk => cases hk; exact h1
  | 1, hk => cases hk; exact h2
  | 2, hk => cases hk; exact h3
  | 3, hk => cases hk; exact h4
  | 4, hk => cases hk; exact h5
  | 5, hk => cases hk; exact h6
  | 6, hk => cases hk; exact h7
theorem turnsErr_0 (l : List Pn) (ts : List T3) (hR : NetR l ts) (ph xs : List Int) (hph : phE l ph = 0) (hxl : xs.length ≤ 1000000) (c c2 c3 c4 z0 z1 z2 z4 z5 z6 : Nat) :
    PCalls Try.prog 49 [.pointer (some ⟨2, 0, none⟩), .slice (some ⟨5, 0, none⟩) ph.length c3, .slice (some ⟨6, 0, none⟩) xs.length c4] [some ⟨flatP l, false, z0⟩, some ⟨flatT ts, false, z1⟩, some ⟨[.slice (some ⟨0, 0, none⟩) l.length c, .slice (some ⟨1, 0, none⟩) ts.length c2, .slice (some ⟨4, 0, none⟩) (edL ts).length INF, .map (some 3)], false, z2⟩, some (mpX (lfA ts) false 0), some ⟨flatP (edL ts), false, z4⟩, some ⟨flatN ph, false, z5⟩, some ⟨flatN xs, false, z6⟩] (.tuple #[.int .i64 (tuI ts ph xs), .int .i64 (tuE ts ph xs)]) := by
  have hc3 := fun (m : Mem) (blk : Blk) (h1 : m.at 6 = some blk) (h2 : blk.cells = flatN xs) (h3 : blk.obj = Ob.plain) => ContainsI_q (c := c4) 71 (by kernel_rfl) (fun x => !rgB x (-100) 100) offTu_q xs hxl h1 h2 rfl h3
  have e10 := tu_10 (ts := ts) (ph := ph) (xs := xs)
  have e2 := tu_2 (ts := ts) (ph := ph) (xs := xs)
  have e21 := tu_21 (ts := ts) (ph := ph) (xs := xs)
  have e0 := tu_0 (ts := ts) (ph := ph) (xs := xs)
  have hbd := anyR_no (xs := xs) (a := -100) (b := 100)
  have h80 := hR.le
  have hle := edL_le ts
  have hcb := fun (k : Nat) (hk : k < ts.length) => clL_bd hR ph k hk
  have hcd := fun (m : Mem) (h : OpenN m 2 3 4 0 1 c c2 l ts) (F : Blk) (f1 : m.at 5 = some F) (f2 : F.cells = flatN ph) (f3 : F.obj = Ob.plain) => closures_q (n := ph.length) (c3 := c3) h hR ph hph f1 f2 rfl (by decide) f3
  have hcl := clL_len ts ph
  have hSl : (smL ts xs (edL ts).length).length = ts.length := smL_len _ _ _
  have hsu := fun (hx : xs.length = (edL ts).length) (ha : xs.any (fun x => !rgB x (-100) 100) = false) (m : Mem) (h : OpenN m 2 3 4 0 1 c c2 l ts) (F : Blk) (f1 : m.at 6 = some F) (f2 : F.cells = flatN xs) (f3 : F.obj = Ob.plain) => sums_q (n := xs.length) (c3 := c4) h hR xs hx (fun k hk => by have := hbd ha k hk; omega) f1 f2 rfl (by decide) f3
  have hsb := fun (hx : xs.length = (edL ts).length) (ha : xs.any (fun x => !rgB x (-100) 100) = false) (k : Nat) (hk : k < ts.length) => smL_bd (ts := ts) (xs := xs) (fun k hk => by have := hbd ha k hk; omega) (edL ts).length (by omega) k hk
  have htu : ∀ k, tuT ts ph xs k = nt (smL ts xs (edL ts).length) k + nt (clL ts ph) k := fun k => rfl
  clear hbd
  generalize smL ts xs (edL ts).length = S at *
  generalize clL ts ph = C at *
  generalize tuE ts ph xs = E0 at *
  generalize tuI ts ph xs = I0 at *
  generalize tuT ts ph xs = T0 at *
  generalize xs.any (fun x => !rgB x (-100) 100) = B0 at *
  have hgS : ∀ k, k < ts.length → (flatN S)[k]? = some (.int .i64 (nt S k)) := fun k hk => flatN_get _ k (by omega)
  have hgC : ∀ k, k < ts.length → (flatN C)[k]? = some (.int .i64 (nt C k)) := fun k hk => flatN_get _ k (by omega)
  refine PCalls.enter (t := [.pointer (some ⟨2, 0, none⟩), .slice (some ⟨5, 0, none⟩) ph.length c3, .slice (some ⟨6, 0, none⟩) xs.length c4, undef, undef, undef, undef, undef, undef, undef, undef, undef, undef, undef, undef, undef, undef, undef, undef, undef, undef, undef, undef, undef, undef, undef, undef, undef, undef, undef, undef, undef, undef, undef, undef, undef, undef, undef, undef, undef, undef, undef, undef, undef]) Try.func49 rfl (ro7p _ _ _ _ _ _ _ rfl rfl rfl rfl rfl rfl rfl) rfl fun E => ?_
  repeat' (first
    | with_reducible (first | refine Then.n ?_ | refine Then.r ?_ | refine Then.x ?_ | refine InB.n ?_ | refine InB.r ?_ | refine InB.hit ?_ | refine InB.miss (by decide) ?_)
    | ((with_reducible refine AL.on ?_); first
      | ((first | ((with_reducible refine AL.k_assign ?_); first | (refine AL.q rfl (OQ.assign wl) ?_)) | ((with_reducible refine AL.k_move ?_); first | (refine AL.q rfl (OQ.move wl) ?_)) | ((with_reducible refine AL.k_call ?_); first | refine AL.q rfl (OQ.lenS (xt := 29) (r := (none, 1, false)) rfl kr) ?_ | refine AL.q rfl (OQ.lenS (xt := 42) (r := (none, 2, true)) rfl kr) ?_) | ((with_reducible refine AL.k_binOp ?_); first | refine AL.q rfl (OQ.neq rfl rfl) ?_ | refine AL.q rfl (OQ.lss rfl rfl) ?_ | refine AL.q rfl (OQ.addi rfl rfl (by omega)) ?_ | refine AL.q rfl (OQ.add rfl rfl) ?_) | ((with_reducible refine AL.k_load ?_); first | (refine AL.q rfl (OQ.load1 (ty := 42) rfl kr (by first | (first | exact hgS k (by omega) | exact hgC k (by omega)) | (conv => lhs; whnf))) ?_) | (refine AL.q rfl (OQ.load1 (ty := 3) rfl kr (by first | (first | exact hgS k (by omega) | exact hgC k (by omega)) | (conv => lhs; whnf))) ?_)) | refine AL.q rfl (OQ.nilCheck rfl) ?_); (refine AL.nm ?_))
      | ((first | ((with_reducible refine AL.k_call ?_); first | refine AL.pcall (g := 65) rfl kr rfl ((by exact hc3 _ _ rfl rfl rfl)) ?_) | ((with_reducible refine AL.k_indexAddr ?_); first | refine AL.q rfl (OQ.idxAddr (ty := 29) (z := 1) (g := false) rfl rfl kr (by first | omega | decide) (by first | omega | decide)) ?_) | ((with_reducible refine AL.k_fieldAddr ?_); first | refine AL.q rfl (OQ.fieldA (ty := 74) (i := 1) (n := 1) (off := 2) (g := false) rfl kr (by decide)) ?_)); (refine AL.nm ?_))
      | ((first | first | refine AL.acall (g := 67) rfl kr rfl ((by exact hcd _ ⟨⟨_, rfl, rfl, rfl⟩, ⟨_, rfl, rfl, rfl⟩, ⟨_, rfl, rfl, rfl⟩, ⟨_, rfl⟩, ⟨_, rfl, rfl, rfl⟩⟩ _ rfl rfl rfl)) ?_ | refine AL.acall (g := 72) rfl kr rfl ((by exact hsu hxx hB _ ⟨⟨_, rfl, rfl, rfl⟩, ⟨_, rfl, rfl, rfl⟩, ⟨_, rfl, rfl, rfl⟩, ⟨_, rfl⟩, ⟨_, rfl, rfl, rfl⟩⟩ _ rfl rfl rfl)) ?_); (refine AL.nm ?_); (refine AL.nM ?_))
      | refine AL.nil ?_)
    | ((with_reducible refine AW.on ?_); first
      | refine AW.seq ?_
      | refine AW.skip ?_
      | refine AW.exit ?_
      | refine AW.ret ?_
      | ((refine AW.block (id := 1) ?_); (refine AW.fk [8, 28, 29, 30] ?_); (refine AW.loop (fun n' t' m => ∃ k : Nat, n' = ts.length - k ∧ k ≤ ts.length ∧ (∀ j, j < k → T0 j = 0) ∧ t' = [jk, jk, jk, jk, jk, jk, jk, jk, .slice (some ⟨7, 0, none⟩) ts.length ts.length, jk, jk, jk, jk, jk, jk, jk, jk, jk, jk, jk, jk, jk, jk, jk, jk, jk, jk, jk, .slice (some ⟨8, 0, none⟩) ts.length ts.length, .int .i64 (ts.length), .int .i64 (k), jk, jk, jk, jk, jk, jk, jk, jk, jk, jk, jk, jk, jk] ∧ m = [some ⟨flatP l, false, z0⟩, some ⟨flatT ts, false, z1⟩, some ⟨[.slice (some ⟨0, 0, none⟩) l.length c, .slice (some ⟨1, 0, none⟩) ts.length c2, .slice (some ⟨4, 0, none⟩) (edL ts).length INF, .map (some 3)], false, z2⟩, some (mpX (lfA ts) false 0), some ⟨flatP (edL ts), false, z4⟩, some ⟨flatN ph, false, z5⟩, some ⟨flatN xs, false, z6⟩, some ⟨flatN C, true, 1⟩, some ⟨flatN S, true, 1⟩]) (ts.length) (by exact ⟨0, rfl, Nat.zero_le _, fun j h => absurd h (by omega), rfl, rfl⟩) ?_); (rintro n' t' m ⟨k, rfl, hk, hj, rfl, rfl⟩))
      | refine AW.block ?_
      | (refine AW.region (id := 5) ?_; ((have hxx : xs.length = (edL ts).length := (by omega); have hB : B0 = false := (by first | assumption | simp_all))))
      | (refine AW.region (id := 9) ?_; ((have hq1 := hcb k (by omega); have hq2 := hsb hxx hB k (by omega); have hq3 := htu k)))
      | refine AW.region ?_
      | (refine AW.conds rfl (fun hc => ?_) (fun hc => ?_) <;> (try replace hc := nc hc) <;> first | (exfalso; first | contradiction | (first | omega | (simp at hc; done)); done) | skip))
    | ((with_reducible refine ex_on ?_); (refine ⟨ts.length - (k + 1), _, _, by omega, ?_, k + 1, rfl, by omega, fun j h => (by rcases Nat.lt_or_eq_of_le (Nat.le_of_lt_succ h) with h | rfl; (exact hj j h); (rw [htu]; omega)), rfl, rfl⟩; exact Wk.fk [8, 28, 29, 30] rfl))
    | ((with_reducible refine FinP.on ?_); (first | refine FinP.ret (.tmp wl (.tmp wl .nil)) ?_ rfl | refine FinP.end (.tmp wl (.tmp wl .nil)) ?_ rfl); (try simp only [pack, List.drop, List.take]); all_goals (first | (have hq := e10 (by omega); rw [hq.1, hq.2]; done) | (have hq := e2 (by omega) (by first | assumption | simp_all); rw [hq.1, hq.2]; done) | (have hq := e21 hxx hB k (by omega) hj (by rw [htu]; omega); rw [hq.1, hq.2]; done) | (obtain rfl : k = ts.length := (by omega); have hq := e0 hxx hB hj; rw [hq.1, hq.2]))))
theorem turnsErr_q {m : Mem} {bN bL bE bP bT c c2 bF n c3 bX n4 c4 : Nat} {l : List Pn} {ts : List T3} {F X : Blk} (h : OpenN m bN bL bE bP bT c c2 l ts) (hR : NetR l ts) (ph xs : List Int) (hph : phE l ph = 0) (hxl : xs.length ≤ 1000000) (f1 : m.at bF = some F) (f2 : F.cells = flatN ph) (hn : ph.length = n) (x1 : m.at bX = some X) (x2 : X.cells = flatN xs) (hx : xs.length = n4) (f3 : F.obj = Ob.plain := by rfl) (x3 : X.obj = Ob.plain := by rfl) :
    PCalls Try.prog 49 [.pointer (some ⟨bN, 0, none⟩), .slice (some ⟨bF, 0, none⟩) n c3, .slice (some ⟨bX, 0, none⟩) n4 c4] m (.tuple #[.int .i64 (tuI ts ph xs), .int .i64 (tuE ts ph xs)]) := by
  subst hn hx
  obtain ⟨⟨A, a1, a2, a3⟩, ⟨B, b1, b2, b3⟩, ⟨N, n1, n2, n3⟩, ⟨own, l1⟩, ⟨D, d1, d2, d3⟩⟩ := h
  exact PCalls.viaS [bP, bT, bN, bL, bE, bF, bX] (turnsErr_0 l ts hR ph xs hph hxl c c2 c3 c4 A.esz B.esz N.esz D.esz F.esz X.esz) (ro7p _ _ _ _ _ _ _ rfl rfl rfl rfl rfl rfl rfl)
    ⟨⟨_, a1, by unfold Blk.shp Blk.shpR; rw [a3]; rfl, (fun h => nomatch h), .inl ⟨a2, flatP_scal _⟩⟩, ⟨_, b1, by unfold Blk.shp Blk.shpR; rw [b3]; rfl, (fun h => nomatch h), .inl ⟨b2, flatT_scal _⟩⟩, ⟨_, n1, by unfold Blk.shp Blk.shpR; rw [n3]; rfl, (fun h => nomatch h), .inr ⟨n2, rfl⟩⟩, ⟨_, l1, rfl, (fun h => nomatch h), .inl ⟨rfl, rfl⟩⟩, ⟨_, d1, by unfold Blk.shp Blk.shpR; rw [d3]; rfl, (fun h => nomatch h), .inl ⟨d2, flatP_scal _⟩⟩, ⟨_, f1, by unfold Blk.shp Blk.shpR; rw [f3]; rfl, (fun h => nomatch h), .inl ⟨f2, flatN_scal _⟩⟩, ⟨_, x1, by unfold Blk.shp Blk.shpR; rw [x3]; rfl, (fun h => nomatch h), .inl ⟨x2, flatN_scal _⟩⟩, trivial⟩ rfl rfl rfl rfl
end Go.Proofs.Ytmohcmghbfhdlaa
end
end
