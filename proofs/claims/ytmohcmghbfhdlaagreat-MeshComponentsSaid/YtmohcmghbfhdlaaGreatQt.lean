/- Chapter 6: the reference's check of a net whose lists have any form. -/
import Derived.Test.YtmohcmghbfhdlaaGreatQd
import Derived.Test.YtmohcmghbfhdlaaGreatQs
import Derived.Test.YtmohcmghbfhdlaaGreatQk
import Derived.Test.YtmohcmghbfhdlaaGreatQq
section
set_option linter.unusedSimpArgs false
set_option linter.unusedVariables false
section
namespace Go.Me
open Go.Ab Go.Ls
theorem ok1_all {n : Nat} {cs : List Value} (h : cs.all scal = true) : cs.all (ok1 n) = true := List.all_eq_true.2 fun v hv => ok1_scal (List.all_eq_true.1 h v hv)
theorem PCalls.two {P : Program} {f : FuncId} {args : List Value} {m : Mem} {cs ds : List Value} {v : Value} (h : PCalls P f args [blX cs, blX ds] v) (hs : cs.all scal = true) (ht : ds.all scal = true) (e0 : m.at 0 = blX cs) (e1 : m.at 1 = blX ds)
    (ha : args.map (rn3 fun b => b) = args) (hk : args.all (ok3 2) = true) (hv : rn3 (fun b => b) v = v) (hkv : ok3 2 v = true) : PCalls P f args m v := by
  refine PCalls.wide h (fun b blk hb => ?_) ha hk hv hkv
  match b, hb with
  | 0, hb =>
    have hb' : blX cs = some blk := hb
    refine ⟨blX_ro _ _ hb', ?_, blk, e0.trans hb', ?_, rfl⟩
    · unfold blX at hb'
      split at hb'
      · cases hb'
      · cases hb'; exact ok1_all hs
    · unfold blX at hb'
      split at hb'
      · cases hb'
      · cases hb'; rfl
  | 1, hb =>
    have hb' : blX ds = some blk := hb
    refine ⟨blX_ro _ _ hb', ?_, blk, e1.trans hb', ?_, rfl⟩
    · unfold blX at hb'
      split at hb'
      · cases hb'
      · cases hb'; exact ok1_all ht
    · unfold blX at hb'
      split at hb'
      · cases hb'
      · cases hb'; rfl
end Go.Me
namespace Go.Proofs.YtmohcmghbfhdlaaGreat
open Go Go.RowKit Go.Ab Go.Me
set_option maxRecDepth 100000
set_option maxHeartbeats 4000000
attribute [local irreducible] OQ OW AL AW AF SW
theorem rCP_x (xa : Option Addr) : PCalls Tryz.prog 59 [.slice xa 0 0] [] (.tuple #[.int .i64 0, .int .i64 0]) := by
  refine PCalls.en 21 Tryz.func59 rfl (ro0) rfl (fun E => ?_)
  repeat' (first | with_reducible (first | refine Then.n ?_ | refine Then.x ?_ | refine InB.hit ?_) | ((with_reducible refine AL.on ?_); first | ((first | ((with_reducible refine AL.k_assign ?_); (refine AL.q rfl (OQ.assign wl) ?_)) | ((with_reducible refine AL.k_move ?_); (refine AL.q rfl (OQ.move wl) ?_)) | ((with_reducible refine AL.k_binOp ?_); first | refine AL.q rfl (OQ.gtr rfl rfl) ?_ | refine AL.q rfl (OQ.lss rfl rfl) ?_) | ((with_reducible refine AL.k_call ?_); refine AL.q rfl (OQ.lenS (xt := 22) (r := (none, 2, true)) rfl kr) ?_)); (refine AL.nm ?_)) | refine AL.nil ?_) | ((with_reducible refine AW.on ?_); first | refine AW.seq ?_ | refine AW.skip ?_ | refine AW.exit ?_ | refine AW.ret ?_ | (refine AW.block (id := 0) ?_; refine AW.unroll 1 ?_) | refine AW.region ?_ | (refine AW.conds rfl (fun hc => ?_) (fun hc => ?_) <;> (try replace hc := nc hc) <;> first | (exfalso; contradiction) | skip)) | with_reducible refine AR.s ?_ | ((with_reducible refine FinP.on ?_); (refine FinP.ret (.tmp wl (.tmp wl .nil)) ?_ rfl); (try simp only [pack, List.drop, List.take]); all_goals (rfl)))
theorem rCP_n (m : Mem) : PCalls Tryz.prog 59 [.slice none 0 0] m (.tuple #[.int .i64 0, .int .i64 0]) := PCalls.any (rCP_x none) rfl rfl m
theorem rCP_l (m : Mem) : PCalls Tryz.prog 59 [lostV] m (.tuple #[.int .i64 0, .int .i64 0]) := PCalls.viaS (m0 := []) (args0 := [lostV]) (v0 := .tuple #[.int .i64 0, .int .i64 0]) [] (rCP_x _) (fun b blk h => by simp [Mem.at] at h) trivial rfl rfl rfl rfl
theorem rCP_v (xa : Option Addr) (h : xa = none ∨ xa = some ⟨0, 0, some default⟩) (m : Mem) : PCalls Tryz.prog 59 [.slice xa 0 0] m (.tuple #[.int .i64 0, .int .i64 0]) := by
  rcases h with rfl | rfl
  · exact rCP_n m
  · exact rCP_l m
theorem cp_nil : cpA [] = 0 ∧ cpB [] = 0 := ⟨by kernel_rfl, by kernel_rfl⟩
theorem rCP_g {m : Mem} {i : Nat} {v : Value} {l : List Pn} (h : SlV m i v (flatP l) l.length) (hl : l.length ≤ 1000000) : PCalls Tryz.prog 59 [v] m (.tuple #[.int .i64 (cpA l), .int .i64 (cpB l)]) := by
  rcases h with ⟨k, h0, rfl, h2, h3, h4⟩ | ⟨h1, rfl⟩ | ⟨h1, rfl⟩
  · exact rCheckPoints_q l h2 h3 rfl hl h4
  · obtain rfl := List.eq_nil_of_length_eq_zero h1
    rw [cp_nil.1, cp_nil.2]
    exact rCP_n m
  · obtain rfl := List.eq_nil_of_length_eq_zero h1
    rw [cp_nil.1, cp_nil.2]
    exact rCP_l m
theorem rCheckNet_c (v w : Value) (l : List Pn) (o1 o2 : Option Blk) (hr : Mem.ro [o1, o2]) (hv : SlV [o1, o2] 0 v (flatP l) l.length) (hl : l.length ≤ 1000000) (h0 : cpB l ≠ 0) : PCalls Tryz.prog 29 [.agg #[v, w]] [o1, o2] (.tuple #[.int .i64 0, .int .i64 (cpB l)]) := by
  have hcp := fun (m : Mem) (e0 : m.at 0 = Mem.at [o1, o2] 0) => rCP_g (m := m) (hv.of e0) hl
  generalize cpB l = E0 at *
  generalize cpA l = A0 at *
  refine PCalls.en 205 Tryz.func29 rfl (hr) rfl (fun E => ?_)
  repeat' (first | with_reducible (first | refine Then.n ?_ | refine Then.r ?_) | ((with_reducible refine AL.on ?_); first | ((first | ((with_reducible refine AL.k_move ?_); (refine AL.q rfl (OQ.move wl) ?_)) | ((with_reducible refine AL.k_assign ?_); (refine AL.q rfl (OQ.assign wl) ?_)) | ((with_reducible refine AL.k_load ?_); (refine AL.q rfl (OQ.load1 (ty := 22) rfl kr wl) ?_)) | ((with_reducible refine AL.k_binOp ?_); refine AL.q rfl (OQ.neq rfl rfl) ?_) | ((with_reducible refine AL.k_fieldAddr ?_); refine AL.q rfl (OQ.fieldA (ty := 25) (i := 0) (n := 1) (off := 0) (g := false) rfl kr (by decide)) ?_) | ((with_reducible refine AL.k_extract ?_); refine AL.q rfl (OQ.extract rfl rfl) ?_)); (refine AL.nm ?_)) | ((refine AL.pcall (g := 59) rfl kr rfl ((by exact hcp _ rfl)) ?_); (refine AL.nm ?_)) | ((((with_reducible refine AL.k_box ?_); (refine AL.w rfl (OW.box wl (by intro r h; cases h)) ?_))); (refine AL.nm ?_); (refine AL.nM ?_)) | refine AL.nil ?_) | ((with_reducible refine AW.on ?_); first | refine AW.seq ?_ | refine AW.ret ?_ | refine AW.region ?_ | (refine AW.conds rfl (fun hc => ?_) (fun hc => ?_) <;> (try replace hc := nc hc) <;> first | (exfalso; contradiction) | skip)) | ((with_reducible refine FinP.on ?_); (refine FinP.ret (.tmp wl (.tmp wl .nil)) ?_ rfl); (try simp only [pack, List.drop, List.take]); all_goals (rfl)))
theorem rCheckNet_8 (v : Value) (l : List Pn) (ts : List T3) (c2 : Nat) (o1 o2 : Option Blk) (hr : Mem.ro [o1, o2]) (hv : SlV [o1, o2] 0 v (flatP l) l.length) (hl : l.length ≤ 1000000) (h0 : cpB l = 0) (h8 : 80 < ts.length) : PCalls Tryz.prog 29 [.agg #[v, .slice (some ⟨1, 0, none⟩) ts.length c2]] [o1, o2] (.tuple #[.int .i64 0, .int .i64 8]) := by
  have hcp := fun (m : Mem) (e0 : m.at 0 = Mem.at [o1, o2] 0) => rCP_g (m := m) (hv.of e0) hl
  rw [h0] at hcp
  generalize cpA l = A0 at *
  refine PCalls.en 205 Tryz.func29 rfl (hr) rfl (fun E => ?_)
  repeat' (first | with_reducible (first | refine Then.n ?_ | refine Then.r ?_) | ((with_reducible refine AL.on ?_); first | ((first | ((with_reducible refine AL.k_move ?_); (refine AL.q rfl (OQ.move wl) ?_)) | ((with_reducible refine AL.k_assign ?_); (refine AL.q rfl (OQ.assign wl) ?_)) | ((with_reducible refine AL.k_load ?_); first | (refine AL.q rfl (OQ.load1 (ty := 22) rfl kr wl) ?_) | (refine AL.q rfl (OQ.load1 (ty := 23) rfl kr wl) ?_)) | ((with_reducible refine AL.k_binOp ?_); first | refine AL.q rfl (OQ.neq rfl rfl) ?_ | refine AL.q rfl (OQ.gtr rfl rfl) ?_) | ((with_reducible refine AL.k_fieldAddr ?_); first | refine AL.q rfl (OQ.fieldA (ty := 25) (i := 0) (n := 1) (off := 0) (g := false) rfl kr (by decide)) ?_ | refine AL.q rfl (OQ.fieldA (ty := 25) (i := 1) (n := 1) (off := 1) (g := false) rfl kr (by decide)) ?_) | ((with_reducible refine AL.k_call ?_); refine AL.q rfl (OQ.lenS (xt := 23) (r := (none, 3, true)) rfl kr) ?_) | ((with_reducible refine AL.k_extract ?_); refine AL.q rfl (OQ.extract rfl rfl) ?_)); (refine AL.nm ?_)) | ((refine AL.pcall (g := 59) rfl kr rfl ((by exact hcp _ rfl)) ?_); (refine AL.nm ?_)) | ((((with_reducible refine AL.k_box ?_); (refine AL.w rfl (OW.box wl (by intro r h; cases h)) ?_))); (refine AL.nm ?_); (refine AL.nM ?_)) | refine AL.nil ?_) | ((with_reducible refine AW.on ?_); first | refine AW.seq ?_ | refine AW.skip ?_ | refine AW.ret ?_ | refine AW.region ?_ | (refine AW.conds rfl (fun hc => ?_) (fun hc => ?_) <;> (try replace hc := nc hc) <;> first | (exfalso; first | contradiction | (omega); done) | skip)) | ((with_reducible refine FinP.on ?_); (refine FinP.ret (.tmp wl (.tmp wl .nil)) ?_ rfl); (try simp only [pack, List.drop, List.take]); all_goals (rfl)))
theorem rCheckNet_6 (xa : Option Addr) (hxa : xa = none ∨ xa = some ⟨0, 0, some default⟩) (ts : List T3) (c2 z : Nat) (h1 : 0 < ts.length) (h8 : ts.length ≤ 80) : PCalls Tryz.prog 29 [.agg #[.slice xa 0 0, .slice (some ⟨1, 0, none⟩) ts.length c2]] [none, some ⟨flatT ts, false, z⟩] (.tuple #[.int .i64 0, .int .i64 6]) := by
  have hcp := fun (m : Mem) => rCP_v xa hxa m
  have hldT := fun (k : Nat) (hk : k < ts.length) (a : Option Blk) (r : Mem) => flatT_ld (m := a :: some ⟨flatT ts, false, z⟩ :: r) (b := 1) (ts := ts) rfl rfl k hk
  have hw := fun (x a b : Int) (m : Mem) => rWithin_q x a b m
  refine PCalls.en 205 Tryz.func29 rfl ((fun k blk hk => by match k, hk with | 1, hk => cases hk; rfl)) rfl (fun E => ?_)
  repeat' (first | with_reducible (first | refine Then.n ?_ | refine Then.r ?_ | refine InB.r ?_) | ((with_reducible refine AL.on ?_); first | ((first | ((with_reducible refine AL.k_move ?_); (refine AL.q rfl (OQ.move wl) ?_)) | ((with_reducible refine AL.k_assign ?_); (refine AL.q rfl (OQ.assign wl) ?_)) | ((with_reducible refine AL.k_load ?_); first | (refine AL.q rfl (OQ.load1 (ty := 22) rfl kr (by (conv => lhs; whnf))) ?_) | (refine AL.q rfl (OQ.load1 (ty := 23) rfl kr (by (conv => lhs; whnf))) ?_) | refine AL.q rfl (OQ.loadN (ty := 62) (n := 3) rfl kr kr (by (exact hldT 0 (by omega) _ _))) ?_) | ((with_reducible refine AL.k_binOp ?_); first | refine AL.q rfl (OQ.neq rfl rfl) ?_ | refine AL.q rfl (OQ.gtr rfl rfl) ?_ | refine AL.q rfl (OQ.lss rfl rfl) ?_) | ((with_reducible refine AL.k_call ?_); refine AL.q rfl (OQ.lenS (xt := 23) (r := (none, 3, true)) rfl kr) ?_) | ((with_reducible refine AL.k_unOp ?_); refine AL.q rfl (OQ.not rfl) ?_) | ((with_reducible refine AL.k_extract ?_); refine AL.q rfl (OQ.extract rfl rfl) ?_)); (refine AL.nm ?_)) | ((first | ((with_reducible refine AL.k_fieldAddr ?_); first | refine AL.q rfl (OQ.fieldA (ty := 25) (i := 0) (n := 1) (off := 0) (g := false) rfl kr (by decide)) ?_ | refine AL.q rfl (OQ.fieldA (ty := 25) (i := 1) (n := 1) (off := 1) (g := false) rfl kr (by decide)) ?_) | ((with_reducible refine AL.k_indexAddr ?_); refine AL.q rfl (OQ.idxAddr (ty := 23) (z := 3) (g := true) rfl rfl kr (by omega) (by omega)) ?_) | ((with_reducible refine AL.k_call ?_); first | refine AL.pcall (g := 59) rfl kr rfl ((by exact hcp _)) ?_ | refine AL.pcall (g := 69) rfl kr rfl ((by exact hw _ _ _ _)) ?_)); (refine AL.nm ?_)) | ((first | ((with_reducible refine AL.k_alloc ?_); refine AL.w rfl (OW.alloc (ty := 62) (z := [.int .i64 0, .int .i64 0, .int .i64 0]) kr rfl) ?_) | ((with_reducible refine AL.k_store ?_); (refine AL.w rfl (OW.store (ty := 62) (n := 3) rfl wl rfl rfl kr rfl rfl (by decide) rfl (Nat.le_of_ble_eq_true rfl) (by intro r h; cases h)) ?_)) | ((with_reducible refine AL.k_box ?_); (refine AL.w rfl (OW.box wl (by intro r h; cases h)) ?_))); (refine AL.nm ?_); (refine AL.nM ?_)) | refine AL.nil ?_) | ((with_reducible refine AW.on ?_); first | refine AW.seq ?_ | refine AW.skip ?_ | refine AW.ret ?_ | (refine AW.block (id := 0) ?_; refine AW.unroll 2 ?_) | (refine AW.block (id := 2) ?_; refine AW.unroll 2 ?_) | refine AW.block ?_ | (refine AW.drawF (id := 14) 7 #[0, 1, 3, 0, 8, 24, 56, 127, 255] kr kr ?_; (conv => (arg 8; simp only [List.take_succ_cons, List.take_zero]))) | refine AW.region ?_ | (refine AW.conds rfl (fun hc => ?_) (fun hc => ?_) <;> (try replace hc := nc hc) <;> first | (exfalso; first | contradiction | (first | omega | (have := rgB_ye hc; omega)); done) | skip)) | ((with_reducible refine AF.on ?_); first | ((first | ((with_reducible refine AF.k_move ?_); (refine AF.q 0 (SW.q (OQ.move wl) rfl) ?_)) | ((with_reducible refine AF.k_load ?_); first | (refine AF.ql rfl (SW.q (OQ.load1 (ty := 3) rfl kr (by (conv => lhs; whnf))) rfl) ?_) | (refine AF.ql rfl (SW.q (OQ.load1 (ty := 22) rfl kr (by (conv => lhs; whnf))) rfl) ?_)) | ((with_reducible refine AF.k_binOp ?_); refine AF.q 0 (SW.q (OQ.subi rfl rfl (by omega)) rfl) ?_) | ((with_reducible refine AF.k_indexAddr ?_); refine AF.q 0 (SW.q (OQ.idxPtr (ty := 62) (n := 1) (l := 3) (g := false) rfl rfl kr (by omega) (by omega)) rfl) ?_) | ((with_reducible refine AF.k_fieldAddr ?_); refine AF.q 0 (SW.q (OQ.fieldA (ty := 25) (i := 0) (n := 1) (off := 0) (g := false) rfl kr (by decide)) rfl) ?_) | ((with_reducible refine AF.k_call ?_); refine AF.q 0 (SW.q (OQ.lenS (xt := 22) (r := (none, 2, true)) rfl kr) rfl) ?_)); (conv => (arg 9; try tactic => exact nrmF)); (conv => (arg 11; try simp only [List.nil_append, List.cons_append]))) | (refine AF.nil ?_ kr; (conv => (arg 4; simp only [List.drop_succ_cons, List.drop_zero, List.drop_nil])))) | with_reducible refine AR.s ?_ | ((with_reducible refine FinP.on ?_); (refine FinP.ret (.tmp wl (.tmp wl .nil)) ?_ rfl); (try simp only [pack, List.drop, List.take]); all_goals (rfl)))
theorem rCheckNet_14 (xa : Option Addr) (v : Value) (l : List Pn) (o1 o2 : Option Blk) (hr : Mem.ro [o1, o2]) (hv : SlV [o1, o2] 0 v (flatP l) l.length) (hl : l.length ≤ 1000000) (h0 : cpB l = 0) : PCalls Tryz.prog 29 [.agg #[v, .slice xa 0 0]] [o1, o2] (.tuple #[.int .i64 0, .int .i64 14]) := by
  have hcp := fun (m : Mem) (e0 : m.at 0 = Mem.at [o1, o2] 0) => rCP_g (m := m) (hv.of e0) hl
  rw [h0] at hcp
  generalize cpA l = A0 at *
  refine PCalls.en 205 Tryz.func29 rfl (hr) rfl (fun E => ?_)
  repeat' (first | with_reducible (first | refine Then.n ?_ | refine Then.r ?_ | refine Then.x ?_ | refine InB.hit ?_) | ((with_reducible refine AL.on ?_); first | (refine AL.gd rfl ?_; (refine AL.gs0 rfl rfl (fun hc => ?_) (fun hc => ?_) <;> (try replace hc := nc hc) <;> first | (exfalso; contradiction) | (refine AL.nm ?_))) | ((first | ((with_reducible refine AL.k_move ?_); (refine AL.q rfl (OQ.move wl) ?_)) | ((with_reducible refine AL.k_assign ?_); (refine AL.q rfl (OQ.assign wl) ?_)) | ((with_reducible refine AL.k_load ?_); first | (refine AL.q rfl (OQ.load1 (ty := 22) rfl kr wl) ?_) | (refine AL.q rfl (OQ.load1 (ty := 23) rfl kr wl) ?_)) | ((with_reducible refine AL.k_binOp ?_); first | refine AL.q rfl (OQ.neq rfl rfl) ?_ | refine AL.q rfl (OQ.gtr rfl rfl) ?_ | refine AL.q rfl (OQ.lss rfl rfl) ?_ | refine AL.q rfl (OQ.eql rfl rfl) ?_) | ((with_reducible refine AL.k_fieldAddr ?_); first | refine AL.q rfl (OQ.fieldA (ty := 25) (i := 0) (n := 1) (off := 0) (g := false) rfl kr (by decide)) ?_ | refine AL.q rfl (OQ.fieldA (ty := 25) (i := 1) (n := 1) (off := 1) (g := false) rfl kr (by decide)) ?_) | ((with_reducible refine AL.k_call ?_); refine AL.q rfl (OQ.lenS (xt := 23) (r := (none, 3, true)) rfl kr) ?_) | ((with_reducible refine AL.k_pick ?_); (refine AL.q rfl (OQ.pickT rfl (by with_reducible rfl) wl) ?_)) | ((with_reducible refine AL.k_extract ?_); refine AL.q rfl (OQ.extract rfl rfl) ?_)); (refine AL.nm ?_)) | ((refine AL.pcall (g := 59) rfl kr rfl ((by exact hcp _ rfl)) ?_); (refine AL.nm ?_)) | ((((with_reducible refine AL.k_box ?_); (refine AL.w rfl (OW.box wl (by intro r h; cases h)) ?_))); (refine AL.nm ?_); (refine AL.nM ?_)) | refine AL.nil ?_) | ((with_reducible refine AW.on ?_); first | refine AW.seq ?_ | refine AW.skip ?_ | refine AW.exit ?_ | refine AW.ret ?_ | (refine AW.block (id := 0) ?_; refine AW.unroll 1 ?_) | (refine AW.block (id := 6) ?_; refine AW.unroll 1 ?_) | refine AW.region ?_ | (refine AW.conds rfl (fun hc => ?_) (fun hc => ?_) <;> (try replace hc := nc hc) <;> first | (exfalso; contradiction) | skip)) | with_reducible refine AR.s ?_ | ((with_reducible refine FinP.on ?_); (refine FinP.ret (.tmp wl (.tmp wl .nil)) ?_ rfl); (try simp only [pack, List.drop, List.take]); all_goals (rfl)))
theorem rCheckNet_g {m : Mem} {v w : Value} {l : List Pn} {ts : List T3} (e0 : m.at 0 = Ls.blX (flatP l)) (e1 : m.at 1 = Ls.blX (flatT ts)) (hv : SlV [Ls.blX (flatP l), Ls.blX (flatT ts)] 0 v (flatP l) l.length) (hw : SlV [Ls.blX (flatP l), Ls.blX (flatT ts)] 1 w (flatT ts) ts.length) (hl : l.length ≤ 1000000) (ht : (ts.length : Int) ≤ 9223372036854775807) :
    PCalls Tryz.prog 29 [.agg #[v, w]] m (.tuple #[.int .i64 (netI l ts), .int .i64 (netE l ts)]) := by
  have key : PCalls Tryz.prog 29 [.agg #[v, w]] [Ls.blX (flatP l), Ls.blX (flatT ts)] (.tuple #[.int .i64 (netI l ts), .int .i64 (netE l ts)]) := by
    by_cases h0 : cpB l ≠ 0
    · have a := rCheckNet_c v w l _ _ (ro_bl2 _ _) hv hl h0
      have e : netI l ts = 0 ∧ netE l ts = cpB l := by
        unfold netI netE
        rw [if_pos h0, if_pos h0]
        exact ⟨rfl, rfl⟩
      rw [e.1, e.2]
      exact a
    · have h0 : cpB l = 0 := Classical.not_not.1 h0
      by_cases hT : ts.length = 0
      · obtain rfl := List.eq_nil_of_length_eq_zero hT
        have e : netI l [] = 0 ∧ netE l [] = 14 := rn_14 h0 (by decide) (fun j h => absurd h (by simp)) (by rfl) (.inl rfl)
        rw [e.1, e.2]
        rcases hw with ⟨_, h1, _⟩ | ⟨_, rfl⟩ | ⟨_, rfl⟩
        · exact absurd h1 (by simp)
        · exact rCheckNet_14 none v l _ _ (ro_bl2 _ _) hv hl h0
        · exact rCheckNet_14 _ v l _ _ (ro_bl2 _ _) hv hl h0
      · have hT0 : 0 < ts.length := by omega
        have e2 : Ls.blX (flatT ts) = some ⟨flatT ts, false, 0⟩ := if_neg (fun h => by have := (flatT_nil ts).1 h; omega)
        rw [(hw.pos hT0).1]
        by_cases h8 : 80 < ts.length
        · have e : netI l ts = 0 ∧ netE l ts = 8 := by
            refine ⟨?_, ?_⟩
            · unfold netI
              rw [if_neg (fun h => h h0), if_pos h8]
            · unfold netE
              rw [if_neg (fun h => h h0), if_pos h8]
          rw [e.1, e.2]
          exact rCheckNet_8 v l ts INF _ _ (ro_bl2 _ _) hv hl h0 h8
        · by_cases hL : l.length = 0
          · obtain rfl := List.eq_nil_of_length_eq_zero hL
            have e := rn_6 (l := []) (ts := ts) (k := 0) h0 (by omega) hT0 (fun j h => absurd h (by omega)) (fun h => by
              unfold inR at h
              simp only [List.length_nil] at h
              omega)
            rw [e.1, e.2, e2]
            rcases hv with ⟨_, h1, _⟩ | ⟨_, rfl⟩ | ⟨_, rfl⟩
            · exact absurd h1 (by simp)
            · exact rCheckNet_6 none (.inl rfl) ts INF 0 hT0 (by omega)
            · exact rCheckNet_6 _ (.inr rfl) ts INF 0 hT0 (by omega)
          · have e1 : Ls.blX (flatP l) = some ⟨flatP l, false, 0⟩ := if_neg (fun h => by have := (flatP_nil l).1 h; omega)
            rw [(hv.pos (by omega)).1, e1, e2]
            exact rCheckNet_b l ts INF INF h0 hT0 (by omega)
  rcases hv with ⟨_, _, rfl, _⟩ | ⟨_, rfl⟩ | ⟨_, rfl⟩ <;> rcases hw with ⟨_, _, rfl, _⟩ | ⟨_, rfl⟩ | ⟨_, rfl⟩ <;> exact PCalls.two key (flatP_scal l) (flatT_scal ts) e0 e1 rfl rfl rfl rfl
end Go.Proofs.YtmohcmghbfhdlaaGreat
end
end
/- Chapter 6: phases of a net; differences (the program's). -/
section
set_option linter.unusedSimpArgs false
set_option linter.unusedVariables false
section
namespace Go.Me
open Go.Ab Go.Proofs.YtmohcmghbfhdlaaGreat
theorem flatN_snoc (xs : List Int) (x : Int) : flatN xs ++ [.int .i64 x] = flatN (xs ++ [x]) := by
  unfold flatN
  rw [List.map_append]
  rfl
theorem flatN_len (xs : List Int) : (flatN xs).length = xs.length := List.length_map _
theorem flatN_take {xs : List Int} {k : Nat} (h : k < xs.length) : flatN (xs.take k) ++ [.int .i64 (nt xs k)] = flatN (xs.take (k + 1)) := by
  rw [List.take_add_one, List.getElem?_eq_getElem h, Option.toList_some, flatN_snoc]
  unfold nt
  rw [List.getD_eq_getElem?_getD, List.getElem?_eq_getElem h]
  rfl
def ixB (p : Int → Bool) (xs : List Int) : Int := fstN (fun j => if p (nt xs j) = true then 1 else 0) xs.length
theorem ixB_any (p : Int → Bool) (xs : List Int) : decide (0 ≤ ixB p xs) = xs.any p := by
  unfold ixB
  rcases fst_cases (fun j => if p (nt xs j) = true then 1 else 0) xs.length with h | ⟨i, h1, h2, h3⟩
  · rw [fstN_no _ h]
    symm
    show _ = false
    rw [List.any_eq_false]
    intro x hx hp
    obtain ⟨j, hj, rfl⟩ := List.getElem_of_mem hx
    have this : (if p (nt xs j) = true then (1 : Int) else 0) = 0 := h j hj
    have e : nt xs j = xs[j] := by unfold nt; rw [List.getD_eq_getElem?_getD, List.getElem?_eq_getElem hj]; rfl
    rw [e, hp] at this
    cases this
  · rw [fstN_yes h2 h3 _ h1]
    have e : nt xs i = xs[i] := by unfold nt; rw [List.getD_eq_getElem?_getD, List.getElem?_eq_getElem h1]; rfl
    rw [decide_eq_true (by omega)]
    symm
    rw [List.any_eq_true]
    refine ⟨xs[i], List.getElem_mem _, ?_⟩
    replace h3 : (if p (nt xs i) = true then (1 : Int) else 0) ≠ 0 := h3
    rw [e] at h3
    cases hp : p xs[i] with
    | true => rfl
    | false => rw [hp] at h3; exact absurd rfl h3
def phE (l : List Pn) (ph : List Int) : Int := if ph.length ≠ l.length then 10 else if ph.any (fun x => !rgB x (-2048) 2047) = true then 2 else 0
theorem phE_0 {l : List Pn} {ph : List Int} (h : phE l ph = 0) : ph.length = l.length ∧ ∀ k, k < ph.length → -2048 ≤ nt ph k ∧ nt ph k ≤ 2047 := by
  unfold phE at h
  by_cases h1 : ph.length ≠ l.length
  · rw [if_pos h1] at h; cases h
  · rw [if_neg h1] at h
    cases h2 : ph.any (fun x => !rgB x (-2048) 2047) with
    | true => rw [h2, if_pos rfl] at h; cases h
    | false =>
      refine ⟨Classical.not_not.1 h1, fun k hk => ?_⟩
      rw [List.any_eq_false] at h2
      have e : nt ph k = ph[k] := by unfold nt; rw [List.getD_eq_getElem?_getD, List.getElem?_eq_getElem hk]; rfl
      have := h2 ph[k] (List.getElem_mem _)
      simp only [Bool.not_eq_true', Bool.not_eq_false] at this
      rw [e]
      exact rgB_true.1 this
def dfP (ph : List Int) (e : Pn) : Int := wrI (nt ph e.y.toNat - nt ph e.x.toNat)
def dfL (ts : List T3) (ph : List Int) : List Int := (edL ts).map (dfP ph)
theorem dfL_len (ts : List T3) (ph : List Int) : (dfL ts ph).length = (edL ts).length := List.length_map _
theorem dfL_nt {ts : List T3} {ph : List Int} {k : Nat} (h : k < (edL ts).length) : nt (dfL ts ph) k = dfP ph (pt (edL ts) k) := by
  unfold nt dfL pt
  rw [List.getD_eq_getElem?_getD, List.getD_eq_getElem?_getD, List.getElem?_map, List.getElem?_eq_getElem h]
  rfl
end Go.Me
namespace Go.Proofs.YtmohcmghbfhdlaaGreat
open Go Go.RowKit Go.Ab Go.Me
set_option maxRecDepth 100000
set_option maxHeartbeats 4000000
attribute [local irreducible] OQ OW AL AW AF SW
theorem IndexI_0 (f : FuncId) (hen : enters Tryz.prog f = true) (p : Int → Bool) (hp : ∀ (x : Int) (m : Mem), PCalls Tryz.prog f [.int .i64 x] m (.bool (p x))) (xs : List Int) (c z : Nat) (hl : xs.length ≤ 1000000) :
    PCalls Tryz.prog 137 [.slice (some ⟨0, 0, none⟩) xs.length c, .func (.func f) #[] #[]] [some ⟨flatN xs, false, z⟩] (.int .i64 (ixB p xs)) := by
  have hld := fun (k : Nat) (hk : k < xs.length) => flatN_get xs k hk
  have hno := fstN_no (f := fun j => if p (nt xs j) = true then 1 else 0) xs.length
  have hyes := fun (k : Nat) (h1 : k < xs.length) (hj : ∀ j, j < k → p (nt xs j) = false) (he : p (nt xs k) = true) => fstN_yes (f := fun j => if p (nt xs j) = true then 1 else 0) (fun j h => by show (if p (nt xs j) = true then (1 : Int) else 0) = 0; rw [hj j h]; rfl) (by show (if p (nt xs k) = true then (1 : Int) else 0) ≠ 0; rw [he, if_pos rfl]; decide) xs.length h1
  unfold ixB
  generalize fstN (fun j => if p (nt xs j) = true then 1 else 0) xs.length = E0 at *
  refine PCalls.en 17 Tryz.func137 rfl (ro1p _ rfl) rfl (fun E => ?_)
  repeat' (first | with_reducible (first | refine Then.n ?_ | refine Then.r ?_ | refine Then.x ?_ | refine InB.n ?_ | refine InB.r ?_ | refine InB.hit ?_) | ((with_reducible refine AL.on ?_); first | ((first | ((with_reducible refine AL.k_move ?_); (refine AL.q rfl (OQ.move wl) ?_)) | ((with_reducible refine AL.k_assign ?_); (refine AL.q rfl (OQ.assign wl) ?_)) | ((with_reducible refine AL.k_call ?_); refine AL.q rfl (OQ.lenS (xt := 26) (r := (none, 1, false)) rfl kr) ?_) | ((with_reducible refine AL.k_binOp ?_); first | refine AL.q rfl (OQ.lss rfl rfl) ?_ | refine AL.q rfl (OQ.addi rfl rfl (by omega)) ?_) | ((with_reducible refine AL.k_load ?_); (refine AL.q rfl (OQ.load1 (ty := 3) rfl kr (by (exact hld _ (by omega)))) ?_))); (refine AL.nm ?_)) | ((first | ((with_reducible refine AL.k_call ?_); refine AL.pcall rfl (by assumption) rfl ((by exact hp _ _)) ?_) | ((with_reducible refine AL.k_indexAddr ?_); refine AL.q rfl (OQ.idxAddr (ty := 26) (z := 1) (g := false) rfl rfl kr (by omega) (by omega)) ?_)); (refine AL.nm ?_)) | refine AL.nil ?_) | ((with_reducible refine AW.on ?_); first | refine AW.seq ?_ | refine AW.skip ?_ | refine AW.exit ?_ | refine AW.ret ?_ | ((refine AW.block (id := 0) ?_); (refine AW.fk [0, 1, 7, 8] ?_); (refine AW.loop (fun n' t' m => ∃ k : Nat, n' = xs.length - k ∧ k ≤ xs.length ∧ (∀ j, j < k → p (nt xs j) = false) ∧ t' = (mtz 19 0 [(0, .slice (some ⟨0, 0, none⟩) xs.length c), (1, .func (.func f) #[] #[]), (7, .int .i64 (xs.length)), (8, .int .i64 (k))]) ∧ m = [some ⟨flatN xs, false, z⟩]) (xs.length) (by exact ⟨0, rfl, Nat.zero_le _, fun j h => absurd h (by omega), rfl, rfl⟩) ?_); (rintro n' t' m ⟨k, rfl, hk, hj, rfl, rfl⟩); (refine AW.nT ?_)) | refine AW.block ?_ | refine AW.region ?_ | (refine AW.conds rfl (fun hc => ?_) (fun hc => ?_) <;> (try replace hc := nc hc) <;> skip)) | ((with_reducible refine ex_on ?_); (refine ⟨xs.length - (k + 1), _, _, by omega, ?_, k + 1, rfl, by omega, fun j h => (by rcases Nat.lt_or_eq_of_le (Nat.le_of_lt_succ h) with h | rfl; (exact hj j h); (assumption)), rfl, rfl⟩; exact Wk.fk [0, 1, 7, 8] rfl)) | ((with_reducible refine FinP.on ?_); (refine FinP.ret (.tmp wl .nil) ?_ rfl); (try simp only [pack, List.drop, List.take]); all_goals (symm; first | (rw [hyes k (by omega) hj (by assumption)]; done) | (obtain rfl : k = xs.length := (by omega); rw [hno (fun j h => by show (if p (nt xs j) = true then (1 : Int) else 0) = 0; rw [hj j h]; rfl)]))))
theorem ContainsI_0 (f : FuncId) (hen : enters Tryz.prog f = true) (p : Int → Bool) (hp : ∀ (x : Int) (m : Mem), PCalls Tryz.prog f [.int .i64 x] m (.bool (p x))) (xs : List Int) (c z : Nat) (hl : xs.length ≤ 1000000) :
    PCalls Tryz.prog 87 [.slice (some ⟨0, 0, none⟩) xs.length c, .func (.func f) #[] #[]] [some ⟨flatN xs, false, z⟩] (.bool (xs.any p)) := by
  have hi := IndexI_0 f hen p hp xs c z hl
  rw [← ixB_any]
  generalize ixB p xs = E0 at *
  refine PCalls.en 7 Tryz.func87 rfl (ro1p _ rfl) rfl (fun E => ?_)
  repeat' (first | with_reducible (refine Then.n ?_) | ((with_reducible refine AL.on ?_); first | ((first | ((with_reducible refine AL.k_assign ?_); (refine AL.q rfl (OQ.assign wl) ?_)) | ((with_reducible refine AL.k_move ?_); (refine AL.q rfl (OQ.move wl) ?_)) | ((with_reducible refine AL.k_binOp ?_); refine AL.q rfl (OQ.geq rfl rfl) ?_)); (refine AL.nm ?_)) | ((refine AL.pcall (g := 137) rfl kr rfl ((by exact hi)) ?_); (refine AL.nm ?_)) | refine AL.nil ?_) | ((with_reducible refine AW.on ?_); first | refine AW.seq ?_ | refine AW.ret ?_ | refine AW.region ?_) | ((with_reducible refine FinP.on ?_); (refine FinP.ret (.tmp wl .nil) ?_ rfl); (try simp only [pack, List.drop, List.take]); all_goals (rfl)))
theorem ContainsI_q {m : Mem} {b n c : Nat} {blk : Blk} (f : FuncId) (hen : enters Tryz.prog f = true) (p : Int → Bool) (hp : ∀ (x : Int) (m : Mem), PCalls Tryz.prog f [.int .i64 x] m (.bool (p x))) (xs : List Int) (hl : xs.length ≤ 1000000) (hb : m.at b = some blk) (hc : blk.cells = flatN xs) (hn : xs.length = n) (ho : blk.obj = Ob.plain := by rfl) :
    PCalls Tryz.prog 87 [.slice (some ⟨b, 0, none⟩) n c, .func (.func f) #[] #[]] m (.bool (xs.any p)) := by
  subst hn
  exact PCalls.viaS [b] (ContainsI_0 f hen p hp xs c blk.esz hl) (ro1p _ rfl) ⟨⟨_, hb, by unfold Blk.shp Blk.shpR; rw [ho]; rfl, (fun h => nomatch h), .inl ⟨hc, flatN_scal _⟩⟩, trivial⟩ rfl rfl rfl rfl
theorem offPh_q (n : Int) (m : Mem) : PCalls Tryz.prog 160 [.int .i64 n] m (.bool (!rgB n (-2048) 2047)) := by
  refine PCalls.any ?_ rfl rfl m
  have hw := fun m => within_q n (-2048) 2047 m
  refine PCalls.en 5 Tryz.func160 rfl (ro_nil) rfl (fun E => ?_)
  repeat' (first | with_reducible (refine Then.n ?_) | ((with_reducible refine AL.on ?_); first | ((first | ((with_reducible refine AL.k_assign ?_); (refine AL.q rfl (OQ.assign wl) ?_)) | ((with_reducible refine AL.k_move ?_); (refine AL.q rfl (OQ.move wl) ?_)) | ((with_reducible refine AL.k_unOp ?_); refine AL.q rfl (OQ.not rfl) ?_)); (refine AL.nm ?_)) | ((refine AL.pcall (g := 89) rfl kr rfl (hw _) ?_); (refine AL.nm ?_)) | refine AL.nil ?_) | ((with_reducible refine AW.on ?_); first | refine AW.seq ?_ | refine AW.ret ?_ | refine AW.region ?_) | ((with_reducible refine FinP.on ?_); (refine FinP.ret (.tmp wl .nil) ?_ rfl); (try simp only [pack, List.drop, List.take]); all_goals (rfl)))
theorem ro6p (a b c d e f : Blk) (h1 : a.own = false) (h2 : b.own = false) (h3 : c.own = false) (h4 : d.own = false) (h5 : e.own = false) (h6 : f.own = false) : Mem.ro [some a, some b, some c, some d, some e, some f] := fun k blk hk => by
  match k, hk with
  | 0, hk => cases hk; exact h1
  | 1, hk => cases hk; exact h2
  | 2, hk => cases hk; exact h3
  | 3, hk => cases hk; exact h4
  | 4, hk => cases hk; exact h5
  | 5, hk => cases hk; exact h6
abbrev mem6 (l : List Pn) (ts : List T3) (xs : List Int) (c c2 z0 z1 z2 z4 z5 : Nat) : Mem := [some ⟨flatP l, false, z0⟩, some ⟨flatT ts, false, z1⟩, some ⟨[.slice (some ⟨0, 0, none⟩) l.length c, .slice (some ⟨1, 0, none⟩) ts.length c2, .slice (some ⟨4, 0, none⟩) (edL ts).length INF, .map (some 3)], false, z2⟩, some (mpX (lfA ts) false 0), some ⟨flatP (edL ts), false, z4⟩, some ⟨flatN xs, false, z5⟩]
theorem phasesErr_0 (l : List Pn) (ts : List T3) (ph : List Int) (c c2 c3 z0 z1 z2 z4 z5 : Nat) (hl : ph.length ≤ 1000000) :
    PCalls Tryz.prog 123 [.pointer (some ⟨2, 0, none⟩), .slice (some ⟨5, 0, none⟩) ph.length c3] [some ⟨flatP l, false, z0⟩, some ⟨flatT ts, false, z1⟩, some ⟨[.slice (some ⟨0, 0, none⟩) l.length c, .slice (some ⟨1, 0, none⟩) ts.length c2, .slice (some ⟨4, 0, none⟩) (edL ts).length INF, .map (some 3)], false, z2⟩, some (mpX (lfA ts) false 0), some ⟨flatP (edL ts), false, z4⟩, some ⟨flatN ph, false, z5⟩] (.int .i64 (phE l ph)) := by
  have hc3 := fun (m : Mem) (b : Nat) (blk : Blk) (h1 : m.at b = some blk) (h2 : blk.cells = flatN ph) (h3 : blk.obj = Ob.plain) => ContainsI_q (c := c3) 160 (by kernel_rfl) (fun x => !rgB x (-2048) 2047) offPh_q ph hl h1 h2 rfl h3
  have e10 : ph.length ≠ l.length → phE l ph = 10 := fun h => if_pos h
  have e2 : ph.length = l.length → ph.any (fun x => !rgB x (-2048) 2047) = true → phE l ph = 2 := fun h h2 => by unfold phE; rw [if_neg (fun h3 => h3 h), if_pos h2]
  have e0 : ph.length = l.length → ph.any (fun x => !rgB x (-2048) 2047) = false → phE l ph = 0 := fun h h2 => by unfold phE; rw [if_neg (fun h3 => h3 h), if_neg (by rw [h2]; decide)]
  generalize phE l ph = E0 at *
  generalize ph.any (fun x => !rgB x (-2048) 2047) = B0 at *
  refine PCalls.en 16 Tryz.func123 rfl (ro6p _ _ _ _ _ _ rfl rfl rfl rfl rfl rfl) rfl (fun E => ?_)
  repeat' (first | with_reducible (first | refine Then.n ?_ | refine Then.r ?_ | refine InB.n ?_ | refine InB.r ?_) | ((with_reducible refine AL.on ?_); first | ((first | ((with_reducible refine AL.k_assign ?_); (refine AL.q rfl (OQ.assign wl) ?_)) | ((with_reducible refine AL.k_move ?_); (refine AL.q rfl (OQ.move wl) ?_)) | ((with_reducible refine AL.k_call ?_); first | refine AL.q rfl (OQ.lenS (xt := 26) (r := (none, 1, false)) rfl kr) ?_ | refine AL.q rfl (OQ.lenS (xt := 22) (r := (none, 2, true)) rfl kr) ?_) | ((with_reducible refine AL.k_fieldAddr ?_); first | refine AL.q rfl (OQ.fieldA (ty := 110) (i := 0) (n := 2) (off := 0) (g := true) rfl kr (by decide)) ?_ | refine AL.q rfl (OQ.fieldA (ty := 25) (i := 0) (n := 1) (off := 0) (g := false) rfl kr (by decide)) ?_) | ((with_reducible refine AL.k_load ?_); (refine AL.q rfl (OQ.load1 (ty := 22) rfl kr wl) ?_)) | ((with_reducible refine AL.k_binOp ?_); refine AL.q rfl (OQ.neq rfl rfl) ?_) | refine AL.q rfl (OQ.nilCheck rfl) ?_); (refine AL.nm ?_)) | ((refine AL.pcall (g := 87) rfl kr rfl ((by exact hc3 _ 5 _ rfl rfl rfl)) ?_); (refine AL.nm ?_)) | refine AL.nil ?_) | ((with_reducible refine AW.on ?_); first | refine AW.seq ?_ | refine AW.skip ?_ | refine AW.ret ?_ | refine AW.block ?_ | refine AW.region ?_ | (refine AW.conds rfl (fun hc => ?_) (fun hc => ?_) <;> (try replace hc := nc hc) <;> skip)) | ((with_reducible refine FinP.on ?_); (refine FinP.ret (.tmp wl .nil) ?_ rfl); (try simp only [pack, List.drop, List.take]); all_goals (congr 1; first | exact (e10 (by omega)).symm | exact (e2 (by omega) (by assumption)).symm | exact (e0 (by omega) (by assumption)).symm)))
theorem differences_0 (l : List Pn) (ts : List T3) (hR : NetR l ts) (ph : List Int) (hph : phE l ph = 0) (c c2 c3 z0 z1 z2 z4 z5 : Nat) :
    ACalls Tryz.prog 67 [.pointer (some ⟨2, 0, none⟩), .slice (some ⟨5, 0, none⟩) ph.length c3] [some ⟨flatP l, false, z0⟩, some ⟨flatT ts, false, z1⟩, some ⟨[.slice (some ⟨0, 0, none⟩) l.length c, .slice (some ⟨1, 0, none⟩) ts.length c2, .slice (some ⟨4, 0, none⟩) (edL ts).length INF, .map (some 3)], false, z2⟩, some (mpX (lfA ts) false 0), some ⟨flatP (edL ts), false, z4⟩, some ⟨flatN ph, false, z5⟩]
      (.slice (some ⟨6, 0, none⟩) (edL ts).length INF) [some ⟨flatP l, false, z0⟩, some ⟨flatT ts, false, z1⟩, some ⟨[.slice (some ⟨0, 0, none⟩) l.length c, .slice (some ⟨1, 0, none⟩) ts.length c2, .slice (some ⟨4, 0, none⟩) (edL ts).length INF, .map (some 3)], false, z2⟩, some (mpX (lfA ts) false 0), some ⟨flatP (edL ts), false, z4⟩, some ⟨flatN ph, false, z5⟩, some ⟨flatN (dfL ts ph), true, 1⟩] := by
  obtain ⟨hpl, hpb⟩ := phE_0 hph
  have hr := fun (k : Nat) (hk : k < (edL ts).length) => edL_at hR.ok k hk
  have hg := fun (k : Nat) (hk : k < ph.length) => flatN_get ph k hk
  have hpos := edL_pos hR
  have hle := edL_le ts
  have h80 := hR.le
  have hdl := dfL_len ts ph
  have hnt := fun (k : Nat) (hk : k < (edL ts).length) => dfL_nt (ph := ph) hk
  have hft := fun (k : Nat) (hk : k < (edL ts).length) => flatN_take (xs := dfL ts ph) (k := k) (by rw [dfL_len]; exact hk)
  have hfl : ∀ k, k ≤ (edL ts).length → (flatN ((dfL ts ph).take k)).length = k * 1 := fun k hk => by rw [flatN_len, List.length_take, dfL_len, Nat.min_eq_left hk, Nat.mul_one]
  have htl : (dfL ts ph).take (edL ts).length = dfL ts ph := by rw [← dfL_len ts ph, List.take_length]
  have hwr := fun (n : Int) (hn : -1000000000 ≤ n ∧ n ≤ 1000000000) (m : Mem) => wrap_q n hn m
  refine ACalls.en 32 Tryz.func67 rfl rfl (fun E hE => ?_)
  repeat' (first | with_reducible (first | refine Then.n ?_ | refine Then.x ?_ | refine InB.n ?_ | refine InB.hit ?_) | ((with_reducible refine AL.on ?_); first | ((first | ((with_reducible refine AL.k_move ?_); (refine AL.q rfl (OQ.move wl) ?_)) | ((with_reducible refine AL.k_load ?_); first | (refine AL.q rfl (OQ.load1 (ty := 45) rfl kr (by (conv => lhs; whnf))) ?_) | refine AL.q rfl (OQ.loadN (ty := 52) (n := 2) rfl kr kr (by (exact flatP_ld rfl rfl _ (by omega)))) ?_) | ((with_reducible refine AL.k_assign ?_); (refine AL.q rfl (OQ.assign wl) ?_)) | ((with_reducible refine AL.k_call ?_); refine AL.q rfl (OQ.lenS (xt := 45) (r := (none, 2, true)) rfl kr) ?_) | ((with_reducible refine AL.k_binOp ?_); first | refine AL.q rfl (OQ.lss rfl rfl) ?_ | refine AL.q rfl (OQ.addi rfl rfl (by omega)) ?_) | refine AL.q rfl (OQ.nilCheck rfl) ?_); (refine AL.nm ?_)) | ((first | ((with_reducible refine AL.k_indexAddr ?_); refine AL.q rfl (OQ.idxAddr (ty := 45) (z := 2) (g := true) rfl rfl kr (by omega) (by omega)) ?_) | ((with_reducible refine AL.k_fieldAddr ?_); refine AL.q rfl (OQ.fieldA (ty := 110) (i := 1) (n := 1) (off := 2) (g := false) rfl kr (by decide)) ?_)); (refine AL.nm ?_)) | ((first | ((with_reducible refine AL.k_call ?_); refine AL.w rfl (by first | exact OW.appendNil (e := 3) (z := 1) (zs := [.int .i64 0]) (by' := 8) rfl rfl kr kr kr rfl kr (by decide) rfl (by decide) (by decide) | exact OW.appendL (e := 3) (z := 1) (zs := [.int .i64 0]) (by' := 8) rfl rfl kr kr kr rfl kr (by decide) rfl rfl rfl (by decide) (by exact hfl k (by omega)) rfl rfl (by omega) (by omega)) ?_) | ((with_reducible refine AL.k_alloc ?_); refine AL.w rfl (OW.alloc (ty := 52) (z := [.int .i64 0, .int .i64 0]) kr rfl) ?_) | ((with_reducible refine AL.k_store ?_); (refine AL.w rfl (OW.store (ty := 52) (n := 2) rfl wl rfl rfl kr rfl rfl (by decide) rfl (Nat.le_of_ble_eq_true rfl) (by intro r h; cases h)) ?_))); (refine AL.nm ?_); (refine AL.nM ?_)) | refine AL.nil ?_) | ((with_reducible refine AW.on ?_); first | refine AW.seq ?_ | refine AW.skip ?_ | refine AW.exit ?_ | refine AW.ret ?_ | ((refine AW.block (id := 0) ?_); (refine AW.fk [1, 5, 11, 12, 13] ?_); (refine AW.loop (fun n' t' m => ∃ k : Nat, n' = (edL ts).length - k ∧ k ≤ (edL ts).length ∧ ((k = 0 ∧ t' = [jk, .slice (some ⟨5, 0, none⟩) ph.length c3, jk, jk, jk, .slice none 0 0, jk, jk, jk, jk, jk, .slice (some ⟨4, 0, none⟩) ((edL ts).length) INF, .int .i64 ((edL ts).length), .int .i64 (k), jk, jk, jk, jk, jk, jk, jk, jk, jk, jk, jk, jk, jk, jk, jk, jk, jk, jk, jk, jk] ∧ m = mem6 l ts ph c c2 z0 z1 z2 z4 z5) ∨ (0 < k ∧ t' = [jk, .slice (some ⟨5, 0, none⟩) ph.length c3, jk, jk, jk, .slice (some ⟨6, 0, none⟩) (k) INF, jk, jk, jk, jk, jk, .slice (some ⟨4, 0, none⟩) ((edL ts).length) INF, .int .i64 ((edL ts).length), .int .i64 (k), jk, jk, jk, jk, jk, jk, jk, jk, jk, jk, jk, jk, jk, jk, jk, jk, jk, jk, jk, jk] ∧ m = [some ⟨flatP l, false, z0⟩, some ⟨flatT ts, false, z1⟩, some ⟨[.slice (some ⟨0, 0, none⟩) l.length c, .slice (some ⟨1, 0, none⟩) ts.length c2, .slice (some ⟨4, 0, none⟩) (edL ts).length INF, .map (some 3)], false, z2⟩, some (mpX (lfA ts) false 0), some ⟨flatP (edL ts), false, z4⟩, some ⟨flatN ph, false, z5⟩, some ⟨flatN ((dfL ts ph).take k), true, 1⟩]))) ((edL ts).length) (by exact ⟨0, rfl, Nat.zero_le _, .inl ⟨rfl, rfl, rfl⟩⟩) ?_); (rintro n' t' m ⟨k, rfl, hk, (⟨hk0, rfl, rfl⟩ | ⟨hk1, rfl, rfl⟩)⟩)) | refine AW.block ?_ | (refine AW.drawF (id := 5) 14 #[0, 0, 0, 4, 14, 30, 0, 0, 128, 448, 960, 2046, 4094, 8190, 16383, 32767] kr kr ?_; (conv => (arg 8; simp only [List.take_succ_cons, List.take_zero])); ((have hq := hr k (by omega); have hq1 := hpb (pt (edL ts) k).x.toNat (by omega); have hq2 := hpb (pt (edL ts) k).y.toNat (by omega)))) | refine AW.region ?_ | (refine AW.conds rfl (fun hc => ?_) (fun hc => ?_) <;> (try replace hc := nc hc) <;> first | (exfalso; ((omega); done)) | skip)) | ((with_reducible refine AF.on ?_); first | ((first | ((with_reducible refine AF.k_move ?_); (refine AF.q 0 (SW.q (OQ.move wl) rfl) ?_)) | ((with_reducible refine AF.k_load ?_); (refine AF.ql rfl (SW.q (OQ.load1 (ty := 3) rfl kr (by first | (exact hg _ (by omega)) | (conv => lhs; whnf))) rfl) ?_)) | ((with_reducible refine AF.k_indexAddr ?_); first | refine AF.q 0 (SW.q (OQ.idxPtr (ty := 52) (n := 1) (l := 2) (g := false) rfl rfl kr (by omega) (by omega)) rfl) ?_ | refine AF.q 0 (SW.q (OQ.idxAddr (ty := 26) (z := 1) (g := false) rfl rfl kr (by omega) (by omega)) rfl) ?_) | ((with_reducible refine AF.k_binOp ?_); refine AF.q 0 (SW.q (OQ.subi rfl rfl (by omega)) rfl) ?_) | ((with_reducible refine AF.k_call ?_); refine AF.q 2 (SW.pcall (g := 126) rfl kr rfl ((by exact hwr _ (by omega) _)) rfl) ?_)); (conv => (arg 9; try tactic => exact nrmF)); (conv => (arg 11; try simp only [List.nil_append, List.cons_append]))) | ((refine AF.n1 0 (SW.w (OW.buildSl (ty := 26) (zs := [.int .i64 0]) (n := 1) (g := false) kr kr rfl rfl rfl (by decide) (by decide) rfl rfl) rfl) rfl ?_); (conv => (arg 9; try tactic => exact nrmF)); (conv => (arg 11; try simp only [List.nil_append, List.cons_append])); (conv => (arg 10; try tactic => exact nrmF))) | (refine AF.nil ?_ kr; (conv => (arg 4; simp only [List.drop_succ_cons, List.drop_zero, List.drop_nil])))) | ((with_reducible refine ex_on ?_); first | (obtain rfl := hk0; have hf0 := hft 0 (by omega); rw [hnt 0 (by omega)] at hf0; refine ⟨(edL ts).length - 1, [jk, .slice (some ⟨5, 0, none⟩) ph.length c3, jk, jk, jk, .slice (some ⟨6, 0, none⟩) (1) INF, jk, jk, jk, jk, jk, .slice (some ⟨4, 0, none⟩) ((edL ts).length) INF, .int .i64 ((edL ts).length), .int .i64 (((0 + 1 : Nat) : Int)), jk, jk, jk, jk, jk, jk, jk, jk, jk, jk, jk, jk, jk, jk, jk, jk, jk, jk, jk, jk], mem6 l ts ph c c2 z0 z1 z2 z4 z5 ++ [some ⟨[.int .i64 (dfP ph (pt (edL ts) 0))], true, 1⟩], by omega, ?_, 0 + 1, rfl, by omega, .inr ⟨by omega, rfl, by rw [← hf0]; rfl⟩⟩; exact Wk.keep 6 [8] (by rw [hE]; exact Nat.le_of_ble_eq_true rfl) rfl rfl (by repeat (first | exact RenT.nil | refine RenT.jk ?_ | refine RenT.val (by rfl) (by rfl) ?_)) ⟨⟨_, rfl, rfl, rfl, .inl ⟨rfl, flatP_scal l⟩⟩, ⟨_, rfl, rfl, rfl, .inl ⟨rfl, flatT_scal ts⟩⟩, ⟨_, rfl, rfl, rfl, .inr ⟨rfl, rfl⟩⟩, ⟨_, rfl, rfl, rfl, .inl ⟨rfl, rfl⟩⟩, ⟨_, rfl, rfl, rfl, .inl ⟨rfl, flatP_scal _⟩⟩, ⟨_, rfl, rfl, rfl, .inl ⟨rfl, flatN_scal _⟩⟩, ⟨_, rfl, rfl, rfl, .inl ⟨rfl, rfl⟩⟩, trivial⟩) | (have hf0 := hft k (by omega); rw [hnt k (by omega)] at hf0; refine ⟨(edL ts).length - (k + 1), [jk, .slice (some ⟨5, 0, none⟩) ph.length c3, jk, jk, jk, .slice (some ⟨6, 0, none⟩) (k + 1) INF, jk, jk, jk, jk, jk, .slice (some ⟨4, 0, none⟩) ((edL ts).length) INF, .int .i64 ((edL ts).length), .int .i64 (((k + 1 : Nat) : Int)), jk, jk, jk, jk, jk, jk, jk, jk, jk, jk, jk, jk, jk, jk, jk, jk, jk, jk, jk, jk], mem6 l ts ph c c2 z0 z1 z2 z4 z5 ++ [some ⟨flatN ((dfL ts ph).take k) ++ [.int .i64 (dfP ph (pt (edL ts) k))], true, 1⟩], by omega, ?_, k + 1, rfl, by omega, .inr ⟨by omega, rfl, by rw [← hf0]; rfl⟩⟩; exact Wk.keep 6 [9] (by rw [hE]; exact Nat.le_of_ble_eq_true rfl) rfl rfl (by repeat (first | exact RenT.nil | refine RenT.jk ?_ | refine RenT.val (by rfl) (by rfl) ?_)) ⟨⟨_, rfl, rfl, rfl, .inl ⟨rfl, flatP_scal l⟩⟩, ⟨_, rfl, rfl, rfl, .inl ⟨rfl, flatT_scal ts⟩⟩, ⟨_, rfl, rfl, rfl, .inr ⟨rfl, rfl⟩⟩, ⟨_, rfl, rfl, rfl, .inl ⟨rfl, rfl⟩⟩, ⟨_, rfl, rfl, rfl, .inl ⟨rfl, flatP_scal _⟩⟩, ⟨_, rfl, rfl, rfl, .inl ⟨rfl, flatN_scal _⟩⟩, ⟨_, rfl, rfl, rfl, .inl ⟨rfl, by rw [List.all_append, flatN_scal]; rfl⟩⟩, trivial⟩)) | ((with_reducible refine FinA.on ?_); (obtain rfl : k = (edL ts).length := (by omega); rw [htl]; refine FinA.keep 7 [] (.inl rfl) (.tmp wl .nil) ?_ rfl (by rw [hE]; exact Nat.le_of_ble_eq_true rfl) rfl rfl ⟨⟨_, rfl, rfl, rfl, .inl ⟨rfl, flatP_scal l⟩⟩, ⟨_, rfl, rfl, rfl, .inl ⟨rfl, flatT_scal ts⟩⟩, ⟨_, rfl, rfl, rfl, .inr ⟨rfl, rfl⟩⟩, ⟨_, rfl, rfl, rfl, .inl ⟨rfl, rfl⟩⟩, ⟨_, rfl, rfl, rfl, .inl ⟨rfl, flatP_scal _⟩⟩, ⟨_, rfl, rfl, rfl, .inl ⟨rfl, flatN_scal _⟩⟩, ⟨_, rfl, rfl, rfl, .inl ⟨rfl, flatN_scal _⟩⟩, trivial⟩; rfl)))
end Go.Proofs.YtmohcmghbfhdlaaGreat
end
end
/- Chapter 6: phases as the reference wraps and checks them; copies of numbers. -/
section
set_option linter.unusedSimpArgs false
set_option linter.unusedVariables false
section
namespace Go.Me
open Go.Ab Go.Proofs.YtmohcmghbfhdlaaGreat
end Go.Me
namespace Go.Proofs.YtmohcmghbfhdlaaGreat
open Go Go.RowKit Go.Ab Go.Me
set_option maxRecDepth 100000
set_option maxHeartbeats 4000000
attribute [local irreducible] OQ OW AL AW AF SW
end Go.Proofs.YtmohcmghbfhdlaaGreat
end
end
