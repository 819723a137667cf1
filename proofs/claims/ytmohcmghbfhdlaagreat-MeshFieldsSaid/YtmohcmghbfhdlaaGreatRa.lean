/- Chapter 6: the reference's check of a net whose lists have any form. -/
import Derived.Test.YtmohcmghbfhdlaaGreatQd
import Derived.Test.YtmohcmghbfhdlaaGreatQz
import Derived.Test.YtmohcmghbfhdlaaGreatQj
import Derived.Test.YtmohcmghbfhdlaaGreatQq
import Derived.Test.YtmohcmghbfhdlaaGreatQr
import Derived.Test.YtmohcmghbfhdlaaGreatQy
section
set_option linter.unusedSimpArgs false
set_option linter.unusedVariables false
section
namespace Go.Me
open Go.Ab Go.Ls
theorem ok1_all {n : Nat} {cs : List Value} (h : cs.all scal = true) : cs.all (ok1 n) = true := List.all_eq_true.2 fun v hv => ok1_scal (List.all_eq_true.1 h v hv)
theorem PCalls.two {P : Program} {f : FuncId} {args : List Value} {m : Mem} {cs ds : List Value} {v : Value} (h : PCalls P f args [blX cs, blX ds] v) (hs : cs.all scal = true) (ht : ds.all scal = true) (e0 : m.at 0 = blX cs) (e1 : m.at 1 = blX ds)
  (ha : args.map (rn3 fun b => b) = args) (hk : args.all (ok3 2) = true) (hv : rn3 (fun b => b) v = v) (hkv : ok3 2 v = true) : PCalls P f args m v := by
 refine PCalls.wide h (fun b blk hb => ?_) ha hk hv hkv
 match b, hb with
 | 0, hb =>
  have hb' : blX cs = some blk := hb
  refine ⟨blX_ro _ _ hb', ?_, blk, e0.trans hb', ?_, rfl⟩
  ·unfold blX at hb'
   split at hb'
   ·cases hb'
   ·cases hb'; exact ok1_all hs
  ·unfold blX at hb'
   split at hb'
   ·cases hb'
   ·cases hb'; rfl
 | 1, hb =>
  have hb' : blX ds = some blk := hb
  refine ⟨blX_ro _ _ hb', ?_, blk, e1.trans hb', ?_, rfl⟩
  ·unfold blX at hb'
   split at hb'
   ·cases hb'
   ·cases hb'; exact ok1_all ht
  ·unfold blX at hb'
   split at hb'
   ·cases hb'
   ·cases hb'; rfl
end Go.Me
namespace Go.Proofs.YtmohcmghbfhdlaaGreat
open Go Go.RowKit Go.Ab Go.Me
set_option maxRecDepth 100000
set_option maxHeartbeats 4000000
attribute [local irreducible] OQ OW AL AW AF SW
theorem rCP_x (xa : Option Addr) : PCalls Tryz.prog 59 [.slice xa 0 0] [] (.tuple #[.int .i64 0, .int .i64 0]) := by
 refine PCalls.en 21 Tryz.func59 rfl (ro0) rfl (fun E => ?_)
 repeat' (first | with_reducible (first | refine Then.n ?_ | refine Then.x ?_ | refine InB.hit ?_) | ((with_reducible refine AL.on ?_); first | ((first | refine AL.as ?_ | refine AL.mv ?_ | ((with_reducible refine AL.k_binOp ?_); first | refine AL.g (OQ.gtr rfl rfl) ?_ | refine AL.g (OQ.lss rfl rfl) ?_) | ((with_reducible refine AL.k_call ?_); refine AL.g (OQ.lenS (xt := 22) (r := (none, 2, true)) rfl kr) ?_)); refine AL.nm ?_) | refine AL.nil ?_) | ((with_reducible refine AW.on ?_); first | refine AW.seq ?_ | refine AW.skip ?_ | refine AW.exit ?_ | refine AW.ret ?_ | (refine AW.block (id := 0) ?_; refine AW.unroll 1 ?_) | refine AW.region ?_ | (refine AW.conds rfl (fun hc => ?_) (fun hc => ?_) <;> (try replace hc := nc hc) <;> first | (exfalso; contradiction) | skip)) | with_reducible refine AR.s ?_ | ((with_reducible refine FinP.on ?_); (refine FinP.ret (.tmp wl (.tmp wl .nil)) ?_ rfl); (try simp only [pack, List.drop, List.take]); all_goals (rfl)))
theorem rCP_n (m : Mem) : PCalls Tryz.prog 59 [.slice none 0 0] m (.tuple #[.int .i64 0, .int .i64 0]) := PCalls.any (rCP_x none) rfl rfl m
theorem rCP_l (m : Mem) : PCalls Tryz.prog 59 [lostV] m (.tuple #[.int .i64 0, .int .i64 0]) := PCalls.viaS (m0 := []) (args0 := [lostV]) (v0 := .tuple #[.int .i64 0, .int .i64 0]) [] (rCP_x _) (fun b blk h => by simp [Mem.at] at h) trivial rfl rfl rfl rfl
theorem rCP_v (xa : Option Addr) (h : xa = none ∨ xa = some ⟨0, 0, some default⟩) (m : Mem) : PCalls Tryz.prog 59 [.slice xa 0 0] m (.tuple #[.int .i64 0, .int .i64 0]) := by
 rcases h with rfl | rfl
 ·exact rCP_n m
 ·exact rCP_l m
theorem cp_nil : cpA [] = 0 ∧ cpB [] = 0 := ⟨by kernel_rfl, by kernel_rfl⟩
theorem rCP_g {m : Mem} {i : Nat} {v : Value} {l : List Pn} (h : SlV m i v (flatP l) l.length) (hl : l.length ≤ 1000000) : PCalls Tryz.prog 59 [v] m (.tuple #[.int .i64 (cpA l), .int .i64 (cpB l)]) := by
 rcases h with ⟨k, h0, rfl, h2, h3, h4⟩ | ⟨h1, rfl⟩ | ⟨h1, rfl⟩
 ·exact rCheckPoints_q l h2 h3 rfl hl h4
 ·obtain rfl := List.eq_nil_of_length_eq_zero h1
  rw [cp_nil.1, cp_nil.2]
  exact rCP_n m
 ·obtain rfl := List.eq_nil_of_length_eq_zero h1
  rw [cp_nil.1, cp_nil.2]
  exact rCP_l m
theorem rCheckNet_c (v w : Value) (l : List Pn) (o1 o2 : Option Blk) (hr : Mem.ro [o1, o2]) (hv : SlV [o1, o2] 0 v (flatP l) l.length) (hl : l.length ≤ 1000000) (h0 : cpB l ≠ 0) : PCalls Tryz.prog 29 [.agg #[v, w]] [o1, o2] (.tuple #[.int .i64 0, .int .i64 (cpB l)]) := by
 have hcp := fun (m : Mem) (e0 : m.at 0 = Mem.at [o1, o2] 0) => rCP_g (m := m) (hv.of e0) hl
 generalize cpB l = E0 at *
 generalize cpA l = A0 at *
 refine PCalls.en 205 Tryz.func29 rfl (hr) rfl (fun E => ?_)
 repeat' (first | with_reducible (first | refine Then.n ?_ | refine Then.r ?_) | ((with_reducible refine AL.on ?_); first | ((first | refine AL.mv ?_ | refine AL.as ?_ | ((with_reducible refine AL.k_load ?_); (refine AL.g (OQ.load1 (ty := 22) rfl kr wl) ?_)) | ((with_reducible refine AL.k_binOp ?_); refine AL.g (OQ.neq rfl rfl) ?_) | ((with_reducible refine AL.k_fieldAddr ?_); refine AL.g (OQ.fieldA (ty := 25) (i := 0) (n := 1) (off := 0) (g := false) rfl kr (by decide)) ?_) | refine AL.et ?_); refine AL.nm ?_) | ((refine AL.pcall (g := 59) rfl kr rfl ((by exact hcp _ rfl)) ?_); refine AL.nm ?_) | ((refine AL.bx ?_); refine AL.nm ?_; refine AL.nM ?_) | refine AL.nil ?_) | ((with_reducible refine AW.on ?_); first | refine AW.seq ?_ | refine AW.ret ?_ | refine AW.region ?_ | (refine AW.conds rfl (fun hc => ?_) (fun hc => ?_) <;> (try replace hc := nc hc) <;> first | (exfalso; contradiction) | skip)) | ((with_reducible refine FinP.on ?_); (refine FinP.ret (.tmp wl (.tmp wl .nil)) ?_ rfl); (try simp only [pack, List.drop, List.take]); all_goals (rfl)))
theorem rCheckNet_8 (v : Value) (l : List Pn) (ts : List T3) (c2 : Nat) (o1 o2 : Option Blk) (hr : Mem.ro [o1, o2]) (hv : SlV [o1, o2] 0 v (flatP l) l.length) (hl : l.length ≤ 1000000) (h0 : cpB l = 0) (h8 : 80 < ts.length) : PCalls Tryz.prog 29 [.agg #[v, .slice (some ⟨1, 0, none⟩) ts.length c2]] [o1, o2] (.tuple #[.int .i64 0, .int .i64 8]) := by
 have hcp := fun (m : Mem) (e0 : m.at 0 = Mem.at [o1, o2] 0) => rCP_g (m := m) (hv.of e0) hl
 rw [h0] at hcp
 generalize cpA l = A0 at *
 refine PCalls.en 205 Tryz.func29 rfl (hr) rfl (fun E => ?_)
 repeat' (first | with_reducible (first | refine Then.n ?_ | refine Then.r ?_) | ((with_reducible refine AL.on ?_); first | ((first | refine AL.mv ?_ | refine AL.as ?_ | ((with_reducible refine AL.k_load ?_); first | (refine AL.g (OQ.load1 (ty := 22) rfl kr wl) ?_) | (refine AL.g (OQ.load1 (ty := 23) rfl kr wl) ?_)) | ((with_reducible refine AL.k_binOp ?_); first | refine AL.g (OQ.neq rfl rfl) ?_ | refine AL.g (OQ.gtr rfl rfl) ?_) | ((with_reducible refine AL.k_fieldAddr ?_); first | refine AL.g (OQ.fieldA (ty := 25) (i := 0) (n := 1) (off := 0) (g := false) rfl kr (by decide)) ?_ | refine AL.g (OQ.fieldA (ty := 25) (i := 1) (n := 1) (off := 1) (g := false) rfl kr (by decide)) ?_) | ((with_reducible refine AL.k_call ?_); refine AL.g (OQ.lenS (xt := 23) (r := (none, 3, true)) rfl kr) ?_) | refine AL.et ?_); refine AL.nm ?_) | ((refine AL.pcall (g := 59) rfl kr rfl ((by exact hcp _ rfl)) ?_); refine AL.nm ?_) | ((refine AL.bx ?_); refine AL.nm ?_; refine AL.nM ?_) | refine AL.nil ?_) | ((with_reducible refine AW.on ?_); first | refine AW.seq ?_ | refine AW.skip ?_ | refine AW.ret ?_ | refine AW.region ?_ | (refine AW.conds rfl (fun hc => ?_) (fun hc => ?_) <;> (try replace hc := nc hc) <;> first | (exfalso; first | contradiction | (omega); done) | skip)) | ((with_reducible refine FinP.on ?_); (refine FinP.ret (.tmp wl (.tmp wl .nil)) ?_ rfl); (try simp only [pack, List.drop, List.take]); all_goals (rfl)))
theorem rCheckNet_6 (xa : Option Addr) (hxa : xa = none ∨ xa = some ⟨0, 0, some default⟩) (ts : List T3) (c2 z : Nat) (h1 : 0 < ts.length) (h8 : ts.length ≤ 80) : PCalls Tryz.prog 29 [.agg #[.slice xa 0 0, .slice (some ⟨1, 0, none⟩) ts.length c2]] [none, some ⟨flatT ts, false, z⟩] (.tuple #[.int .i64 0, .int .i64 6]) := by
 have hcp := fun (m : Mem) => rCP_v xa hxa m
 have hldT := fun (k : Nat) (hk : k < ts.length) (a : Option Blk) (r : Mem) => flatT_ld (m := a :: some ⟨flatT ts, false, z⟩ :: r) (b := 1) (ts := ts) rfl rfl k hk
 have hw := fun (x a b : Int) (m : Mem) => rWithin_q x a b m
 refine PCalls.en 205 Tryz.func29 rfl ((fun k blk hk => by match k, hk with | 1, hk => cases hk; rfl)) rfl (fun E => ?_)
 repeat' (first | with_reducible (first | refine Then.n ?_ | refine Then.r ?_ | refine InB.r ?_) | ((with_reducible refine AL.on ?_); first | ((first | refine AL.mv ?_ | refine AL.as ?_ | ((with_reducible refine AL.k_load ?_); first | (refine AL.g (OQ.load1 (ty := 22) rfl kr (by (conv => lhs; whnf))) ?_) | (refine AL.g (OQ.load1 (ty := 23) rfl kr (by (conv => lhs; whnf))) ?_) | refine AL.g (OQ.loadN (ty := 62) (n := 3) rfl kr kr (by (exact hldT 0 (by omega) _ _))) ?_) | ((with_reducible refine AL.k_binOp ?_); first | refine AL.g (OQ.neq rfl rfl) ?_ | refine AL.g (OQ.gtr rfl rfl) ?_ | refine AL.g (OQ.lss rfl rfl) ?_) | ((with_reducible refine AL.k_call ?_); refine AL.g (OQ.lenS (xt := 23) (r := (none, 3, true)) rfl kr) ?_) | ((with_reducible refine AL.k_unOp ?_); refine AL.g (OQ.not rfl) ?_) | refine AL.et ?_); refine AL.nm ?_) | ((first | ((with_reducible refine AL.k_fieldAddr ?_); first | refine AL.g (OQ.fieldA (ty := 25) (i := 0) (n := 1) (off := 0) (g := false) rfl kr (by decide)) ?_ | refine AL.g (OQ.fieldA (ty := 25) (i := 1) (n := 1) (off := 1) (g := false) rfl kr (by decide)) ?_) | ((with_reducible refine AL.k_indexAddr ?_); refine AL.g (OQ.idxAddr (ty := 23) (z := 3) (g := true) rfl rfl kr (by omega) (by omega)) ?_) | ((with_reducible refine AL.k_call ?_); first | refine AL.pcall (g := 59) rfl kr rfl ((by exact hcp _)) ?_ | refine AL.pcall (g := 69) rfl kr rfl ((by exact hw _ _ _ _)) ?_)); refine AL.nm ?_) | ((first | ((with_reducible refine AL.k_alloc ?_); refine AL.w rfl (OW.alloc (ty := 62) (z := [.int .i64 0, .int .i64 0, .int .i64 0]) kr rfl) ?_) | ((with_reducible refine AL.k_store ?_); (refine AL.w rfl (OW.store (ty := 62) (n := 3) rfl wl rfl rfl kr rfl rfl (by decide) rfl (Nat.le_of_ble_eq_true rfl) (by intro r h; cases h)) ?_)) | refine AL.bx ?_); refine AL.nm ?_; refine AL.nM ?_) | refine AL.nil ?_) | ((with_reducible refine AW.on ?_); first | refine AW.seq ?_ | refine AW.skip ?_ | refine AW.ret ?_ | (refine AW.block (id := 0) ?_; refine AW.unroll 2 ?_) | (refine AW.block (id := 2) ?_; refine AW.unroll 2 ?_) | refine AW.block ?_ | (refine AW.drawF (id := 14) 7 #[0, 1, 3, 0, 8, 24, 56, 127, 255] kr kr ?_; (conv => (arg 8; simp only [List.take_succ_cons, List.take_zero]))) | refine AW.region ?_ | (refine AW.conds rfl (fun hc => ?_) (fun hc => ?_) <;> (try replace hc := nc hc) <;> first | (exfalso; first | contradiction | (first | omega | (have := rgB_ye hc; omega)); done) | skip)) | ((with_reducible refine AF.on ?_); first | ((first | ((with_reducible refine AF.k_move ?_); (refine AF.q 0 (SW.q (OQ.move wl) rfl) ?_)) | ((with_reducible refine AF.k_load ?_); first | (refine AF.ql rfl (SW.q (OQ.load1 (ty := 3) rfl kr (by (conv => lhs; whnf))) rfl) ?_) | (refine AF.ql rfl (SW.q (OQ.load1 (ty := 22) rfl kr (by (conv => lhs; whnf))) rfl) ?_)) | ((with_reducible refine AF.k_binOp ?_); refine AF.q 0 (SW.q (OQ.subi rfl rfl (by omega)) rfl) ?_) | ((with_reducible refine AF.k_indexAddr ?_); refine AF.q 0 (SW.q (OQ.idxPtr (ty := 62) (n := 1) (l := 3) (g := false) rfl rfl kr (by omega) (by omega)) rfl) ?_) | ((with_reducible refine AF.k_fieldAddr ?_); refine AF.q 0 (SW.q (OQ.fieldA (ty := 25) (i := 0) (n := 1) (off := 0) (g := false) rfl kr (by decide)) rfl) ?_) | ((with_reducible refine AF.k_call ?_); refine AF.q 0 (SW.q (OQ.lenS (xt := 22) (r := (none, 2, true)) rfl kr) rfl) ?_)); refine AF.nm ?_) | refine AF.nl ?_) | with_reducible refine AR.s ?_ | ((with_reducible refine FinP.on ?_); (refine FinP.ret (.tmp wl (.tmp wl .nil)) ?_ rfl); (try simp only [pack, List.drop, List.take]); all_goals (rfl)))
theorem rCheckNet_14 (xa : Option Addr) (v : Value) (l : List Pn) (o1 o2 : Option Blk) (hr : Mem.ro [o1, o2]) (hv : SlV [o1, o2] 0 v (flatP l) l.length) (hl : l.length ≤ 1000000) (h0 : cpB l = 0) : PCalls Tryz.prog 29 [.agg #[v, .slice xa 0 0]] [o1, o2] (.tuple #[.int .i64 0, .int .i64 14]) := by
 have hcp := fun (m : Mem) (e0 : m.at 0 = Mem.at [o1, o2] 0) => rCP_g (m := m) (hv.of e0) hl
 rw [h0] at hcp
 generalize cpA l = A0 at *
 refine PCalls.en 205 Tryz.func29 rfl (hr) rfl (fun E => ?_)
 repeat' (first | with_reducible (first | refine Then.n ?_ | refine Then.r ?_ | refine Then.x ?_ | refine InB.hit ?_) | ((with_reducible refine AL.on ?_); first | (refine AL.gd rfl ?_; (refine AL.gs0 rfl rfl (fun hc => ?_) (fun hc => ?_) <;> (try replace hc := nc hc) <;> first | (exfalso; contradiction) | refine AL.nm ?_)) | ((first | refine AL.mv ?_ | refine AL.as ?_ | ((with_reducible refine AL.k_load ?_); first | (refine AL.g (OQ.load1 (ty := 22) rfl kr wl) ?_) | (refine AL.g (OQ.load1 (ty := 23) rfl kr wl) ?_)) | ((with_reducible refine AL.k_binOp ?_); first | refine AL.g (OQ.neq rfl rfl) ?_ | refine AL.g (OQ.gtr rfl rfl) ?_ | refine AL.g (OQ.lss rfl rfl) ?_ | refine AL.g (OQ.eql rfl rfl) ?_) | ((with_reducible refine AL.k_fieldAddr ?_); first | refine AL.g (OQ.fieldA (ty := 25) (i := 0) (n := 1) (off := 0) (g := false) rfl kr (by decide)) ?_ | refine AL.g (OQ.fieldA (ty := 25) (i := 1) (n := 1) (off := 1) (g := false) rfl kr (by decide)) ?_) | ((with_reducible refine AL.k_call ?_); refine AL.g (OQ.lenS (xt := 23) (r := (none, 3, true)) rfl kr) ?_) | refine AL.pT ?_ | refine AL.et ?_); refine AL.nm ?_) | ((refine AL.pcall (g := 59) rfl kr rfl ((by exact hcp _ rfl)) ?_); refine AL.nm ?_) | ((refine AL.bx ?_); refine AL.nm ?_; refine AL.nM ?_) | refine AL.nil ?_) | ((with_reducible refine AW.on ?_); first | refine AW.seq ?_ | refine AW.skip ?_ | refine AW.exit ?_ | refine AW.ret ?_ | (refine AW.block (id := 0) ?_; refine AW.unroll 1 ?_) | (refine AW.block (id := 6) ?_; refine AW.unroll 1 ?_) | refine AW.region ?_ | (refine AW.conds rfl (fun hc => ?_) (fun hc => ?_) <;> (try replace hc := nc hc) <;> first | (exfalso; contradiction) | skip)) | with_reducible refine AR.s ?_ | ((with_reducible refine FinP.on ?_); (refine FinP.ret (.tmp wl (.tmp wl .nil)) ?_ rfl); (try simp only [pack, List.drop, List.take]); all_goals (rfl)))
theorem rCheckNet_g {m : Mem} {v w : Value} {l : List Pn} {ts : List T3} (e0 : m.at 0 = Ls.blX (flatP l)) (e1 : m.at 1 = Ls.blX (flatT ts)) (hv : SlV [Ls.blX (flatP l), Ls.blX (flatT ts)] 0 v (flatP l) l.length) (hw : SlV [Ls.blX (flatP l), Ls.blX (flatT ts)] 1 w (flatT ts) ts.length) (hl : l.length ≤ 1000000) (ht : (ts.length : Int) ≤ 9223372036854775807) :
  PCalls Tryz.prog 29 [.agg #[v, w]] m (.tuple #[.int .i64 (netI l ts), .int .i64 (netE l ts)]) := by
 have key : PCalls Tryz.prog 29 [.agg #[v, w]] [Ls.blX (flatP l), Ls.blX (flatT ts)] (.tuple #[.int .i64 (netI l ts), .int .i64 (netE l ts)]) := by
  by_cases h0 : cpB l ≠ 0
  ·have a := rCheckNet_c v w l _ _ (ro_bl2 _ _) hv hl h0
   have e : netI l ts = 0 ∧ netE l ts = cpB l := by
    unfold netI netE
    rw [if_pos h0, if_pos h0]
    exact ⟨rfl, rfl⟩
   rw [e.1, e.2]
   exact a
  ·have h0 : cpB l = 0 := Classical.not_not.1 h0
   by_cases hT : ts.length = 0
   ·obtain rfl := List.eq_nil_of_length_eq_zero hT
    have e : netI l [] = 0 ∧ netE l [] = 14 := rn_14 h0 (by decide) (fun j h => absurd h (by simp)) (by rfl) (.inl rfl)
    rw [e.1, e.2]
    rcases hw with ⟨_, h1, _⟩ | ⟨_, rfl⟩ | ⟨_, rfl⟩
    ·exact absurd h1 (by simp)
    ·exact rCheckNet_14 none v l _ _ (ro_bl2 _ _) hv hl h0
    ·exact rCheckNet_14 _ v l _ _ (ro_bl2 _ _) hv hl h0
   ·have hT0 : 0 < ts.length := by omega
    have e2 : Ls.blX (flatT ts) = some ⟨flatT ts, false, 0⟩ := if_neg (fun h => by have := (flatT_nil ts).1 h; omega)
    rw [(hw.pos hT0).1]
    by_cases h8 : 80 < ts.length
    ·have e : netI l ts = 0 ∧ netE l ts = 8 := by
      refine ⟨?_, ?_⟩
      ·unfold netI
       rw [if_neg (fun h => h h0), if_pos h8]
      ·unfold netE
       rw [if_neg (fun h => h h0), if_pos h8]
     rw [e.1, e.2]
     exact rCheckNet_8 v l ts INF _ _ (ro_bl2 _ _) hv hl h0 h8
    ·by_cases hL : l.length = 0
     ·obtain rfl := List.eq_nil_of_length_eq_zero hL
      have e := rn_6 (l := []) (ts := ts) (k := 0) h0 (by omega) hT0 (fun j h => absurd h (by omega)) (fun h => by
       unfold inR at h
       simp only [List.length_nil] at h
       omega)
      rw [e.1, e.2, e2]
      rcases hv with ⟨_, h1, _⟩ | ⟨_, rfl⟩ | ⟨_, rfl⟩
      ·exact absurd h1 (by simp)
      ·exact rCheckNet_6 none (.inl rfl) ts INF 0 hT0 (by omega)
      ·exact rCheckNet_6 _ (.inr rfl) ts INF 0 hT0 (by omega)
     ·have e1 : Ls.blX (flatP l) = some ⟨flatP l, false, 0⟩ := if_neg (fun h => by have := (flatP_nil l).1 h; omega)
      rw [(hv.pos (by omega)).1, e1, e2]
      exact rCheckNet_b l ts INF INF h0 hT0 (by omega)
 rcases hv with ⟨_, _, rfl, _⟩ | ⟨_, rfl⟩ | ⟨_, rfl⟩ <;> rcases hw with ⟨_, _, rfl, _⟩ | ⟨_, rfl⟩ | ⟨_, rfl⟩ <;> exact PCalls.two key (flatP_scal l) (flatT_scal ts) e0 e1 rfl rfl rfl rfl
end Go.Proofs.YtmohcmghbfhdlaaGreat
end
end
/- Chapter 6: phases as the reference wraps and checks them; copies of numbers. -/
section
set_option linter.unusedSimpArgs false
set_option linter.unusedVariables false
section
namespace Go.Me
open Go.Ab Go.Proofs.YtmohcmghbfhdlaaGreat
theorem tm_e (n : Int) : n.tmod 4096 = n % 4096 ∨ (n.tmod 4096 = n % 4096 - 4096 ∧ n < 0) := by
 have h1 := Int.tmod_eq_emod (a := n) (b := 4096)
 rw [h1]
 split
 ·exact .inl (by omega)
 ·rename_i h
  exact .inr (by omega)
theorem wrI_e (n : Int) : wrI n = (n + 2048) % 4096 - 2048 := by
 unfold wrI
 have h1 := tm_e (n + 2048)
 have h2 := tm_e ((n + 2048).tmod 4096 + 4096)
 omega
theorem wrI_id (n : Int) : wrI n = n ↔ -2048 ≤ n ∧ n ≤ 2047 := by
 rw [wrI_e]
 omega
theorem ldN {m : Mem} {b n : Nat} {blk : Blk} {xs : List Int} (hb : m.at b = some blk) (hc : blk.cells = flatN xs) (hn : xs.length = n) : m.ld b 0 (n * 1) = some (flatN xs) := by
 subst hn
 unfold Mem.ld
 rw [hb]
 show (if 0 + xs.length * 1 ≤ blk.cells.length then some ((blk.cells.drop 0).take (xs.length * 1)) else none) = _
 have := flatN_len xs
 rw [hc, if_pos (by omega), List.drop_zero, Nat.mul_one, ← flatN_len, List.take_length]
theorem flatN_one (xs : List Int) : (flatN xs).all Ab.one = true := Ls.one_of_scal (flatN_scal xs)
def neE (l : List Pn) (ts : List T3) (ph : List Int) : Int := if netE l ts ≠ 0 then netE l ts else phE l ph
theorem phE_10 {l : List Pn} {ph : List Int} (h : ph.length ≠ l.length) : phE l ph = 10 := if_pos h
theorem phE_2 {l : List Pn} {ph : List Int} (h : ph.length = l.length) {k : Nat} (hk : k < ph.length) (h2 : wrI (nt ph k) ≠ nt ph k) : phE l ph = 2 := by
 unfold phE
 rw [if_neg (fun h3 => h3 h), if_pos]
 rw [List.any_eq_true]
 refine ⟨nt ph k, ?_, ?_⟩
 ·unfold nt
  rw [List.getD_eq_getElem?_getD, List.getElem?_eq_getElem hk]
  exact List.getElem_mem hk
 ·have : rgB (nt ph k) (-2048) 2047 = false := decide_eq_false fun h3 => h2 ((wrI_id _).2 h3)
  rw [this]
  rfl
theorem phE_z {l : List Pn} {ph : List Int} (h : ph.length = l.length) (h2 : ∀ k, k < ph.length → wrI (nt ph k) = nt ph k) : phE l ph = 0 := by
 unfold phE
 rw [if_neg (fun h3 => h3 h), if_neg]
 intro h3
 rw [List.any_eq_true] at h3
 obtain ⟨x, hx, h4⟩ := h3
 obtain ⟨k, hk, rfl⟩ := List.getElem_of_mem hx
 have h5 := h2 k hk
 have e : nt ph k = ph[k] := by
  unfold nt
  rw [List.getD_eq_getElem?_getD, List.getElem?_eq_getElem hk]
  rfl
 rw [e, wrI_id] at h5
 have : rgB ph[k] (-2048) 2047 = true := decide_eq_true h5
 rw [this] at h4
 cases h4
end Go.Me
namespace Go.Proofs.YtmohcmghbfhdlaaGreat
open Go Go.RowKit Go.Ab Go.Me
set_option maxRecDepth 100000
set_option maxHeartbeats 4000000
attribute [local irreducible] OQ OW AL AW AF SW
theorem Mod_q (n b : Int) (hb : 0 < b ∧ b ≤ 9000000000000000000) (m : Mem) : PCalls Tryz.prog 22 [.int .i64 n, .int .i64 b] m (.int .i64 (n % b)) := by
 have h1 := Int.tmod_eq_emod (a := n) (b := b)
 have h2 := Int.emod_nonneg n (by omega : b ≠ 0)
 have h3 := Int.emod_lt_of_pos n hb.1
 have h4 : n.tmod b = n % b ∨ n.tmod b = n % b - b := by
  rw [h1]
  split
  ·exact .inl (by omega)
  ·exact .inr (by omega)
 refine PCalls.any ?_ rfl rfl m
 refine PCalls.en 12 Tryz.func22 rfl (ro_nil) rfl (fun E => ?_)
 repeat' (first | with_reducible (refine Then.n ?_) | ((with_reducible refine AL.on ?_); first | ((first | refine AL.mv ?_ | refine AL.as ?_ | ((with_reducible refine AL.k_binOp ?_); first | refine AL.g (OQ.rem rfl rfl (by omega)) ?_ | refine AL.g (OQ.lss rfl rfl) ?_ | refine AL.g (OQ.addi rfl rfl (by omega)) ?_)); refine AL.nm ?_) | refine AL.nil ?_) | ((with_reducible refine AW.on ?_); first | refine AW.seq ?_ | refine AW.skip ?_ | refine AW.ret ?_ | refine AW.region ?_ | (refine AW.conds rfl (fun hc => ?_) (fun hc => ?_) <;> (try replace hc := nc hc) <;> skip)) | ((with_reducible refine FinP.on ?_); (refine FinP.ret (.tmp wl .nil) ?_ rfl); (try simp only [pack, List.drop, List.take]); all_goals (congr 1; omega)))
theorem Wrap_q (n : Int) (m : Mem) : PCalls Tryz.prog 23 [.int .i64 n] m (.int .i64 (wrI n)) := by
 refine PCalls.any ?_ rfl rfl m
 have hm := fun (x : Int) (m : Mem) => Mod_q x 4096 (by decide) m
 have e : wrI n = (n % 4096 + 2048) % 4096 - 2048 := by
  rw [wrI_e]
  omega
 rw [e]
 refine PCalls.en 7 Tryz.func23 rfl (ro_nil) rfl (fun E => ?_)
 repeat' (first | with_reducible (refine Then.n ?_) | ((with_reducible refine AL.on ?_); first | ((first | refine AL.as ?_ | ((with_reducible refine AL.k_binOp ?_); first | refine AL.g (OQ.addi rfl rfl (by omega)) ?_ | refine AL.g (OQ.subi rfl rfl (by omega)) ?_) | refine AL.mv ?_); refine AL.nm ?_) | ((refine AL.pcall (g := 22) rfl kr rfl (hm _ _) ?_); refine AL.nm ?_) | refine AL.nil ?_) | ((with_reducible refine AW.on ?_); first | refine AW.seq ?_ | refine AW.ret ?_ | refine AW.region ?_) | ((with_reducible refine FinP.on ?_); (refine FinP.ret (.tmp wl .nil) ?_ rfl); (try simp only [pack, List.drop, List.take]); all_goals (rfl)))
theorem CopyInts_b (xs : List Int) (c z : Nat) (hl : xs.length ≤ 1000000) (h0 : 0 < xs.length) : ACalls Tryz.prog 16 [.slice (some ⟨0, 0, none⟩) xs.length c] [some ⟨flatN xs, false, z⟩] (.slice (some ⟨1, 0, none⟩) xs.length INF) [some ⟨flatN xs, false, z⟩, some ⟨flatN xs, true, 1⟩] := by
 have hlen : 0 + xs.length = xs.length := Nat.zero_add _
 refine ACalls.en 5 Tryz.func16 rfl rfl (fun E hE => ?_)
 repeat' (first | with_reducible (refine Then.n ?_) | ((with_reducible refine AL.on ?_); first | ((first | refine AL.as ?_ | refine AL.mv ?_); refine AL.nm ?_) | ((first | ((with_reducible refine AL.k_buildSlice ?_); refine AL.w rfl (OW.buildSl0 (ty := 26) (z := (none, 1, false)) kr) ?_) | ((with_reducible refine AL.k_call ?_); refine AL.w rfl (OW.append (n := 0) (c := 0) (b := 1) (blk := ⟨[], true, 1⟩) (z := 1) (by' := 8) (zs := [.int .i64 0]) (e := 3) rfl rfl kr kr kr rfl kr (by omega) rfl rfl rfl (by decide) (Nat.le_refl _) (ldN rfl rfl rfl) (flatN_one _) (by omega) (by omega)) ?_)); refine AL.nm ?_; refine AL.nM ?_) | refine AL.nil ?_) | ((with_reducible refine AW.on ?_); first | refine AW.seq ?_ | refine AW.ret ?_ | refine AW.region ?_) | ((with_reducible refine FinA.on ?_); (rw [← hlen]; refine FinA.keep 1 [2] (.inl rfl) (.tmp wl .nil) ?_ rfl (Nat.le_of_eq hE) rfl rfl ⟨kl rfl (flatN_scal _), kl rfl (flatN_scal _), trivial⟩; rfl)))
theorem CopyInts_e (xa : Option Addr) : ACalls Tryz.prog 16 [.slice xa 0 0] [] (.slice (some ⟨0, 0, none⟩) 0 0) [some ⟨flatN [], true, 1⟩] := by
 refine ACalls.en 5 Tryz.func16 rfl rfl (fun E hE => ?_)
 repeat' (first | with_reducible (refine Then.n ?_) | ((with_reducible refine AL.on ?_); first | ((first | refine AL.as ?_ | refine AL.mv ?_); refine AL.nm ?_) | ((first | ((with_reducible refine AL.k_buildSlice ?_); refine AL.w rfl (OW.buildSl0 (ty := 26) (z := (none, 1, false)) kr) ?_) | ((with_reducible refine AL.k_call ?_); refine AL.q rfl (by exact OQ.append0 (v := undef) (e := 3) (z := 1) rfl rfl kr kr) ?_)); refine AL.nm ?_; refine AL.nM ?_) | refine AL.nil ?_) | ((with_reducible refine AW.on ?_); first | refine AW.seq ?_ | refine AW.ret ?_ | refine AW.region ?_) | ((with_reducible refine FinA.on ?_); (refine FinA.keep 0 [0] (.inl rfl) (.tmp wl .nil) ?_ rfl (Nat.le_of_eq hE) rfl rfl ⟨kl rfl rfl, trivial⟩; rfl)))
theorem CopyInts_g {m : Mem} {i : Nat} {v : Value} {xs : List Int} (h : SlV m i v (flatN xs) xs.length) (hl : xs.length ≤ 1000000) : ACalls Tryz.prog 16 [v] m (.slice (some ⟨m.length, 0, none⟩) xs.length (cpC xs.length)) (m ++ [some ⟨flatN xs, true, 1⟩]) := by
 rcases h with ⟨A, a0, rfl, a1, a2, a3⟩ | ⟨a1, rfl⟩ | ⟨a1, rfl⟩
 ·rw [show cpC xs.length = INF from if_neg (by omega)]
  exact ACalls.viaS (v := .slice (some ⟨m.length, 0, none⟩) xs.length INF) [i] [] [some ⟨flatN xs, true, 1⟩] (CopyInts_b xs INF A.esz hl a0) ⟨bS a1 a3 a2 (flatN_scal _), trivial⟩ (by simp) ⟨⟨_, rfl, rfl⟩, ⟨rfl, rfl, rfl, .inl ⟨rfl, flatN_scal _⟩⟩, trivial⟩ rfl rfl rfl rfl
 ·obtain rfl := List.eq_nil_of_length_eq_zero a1
  exact ACalls.viaS (v := .slice (some ⟨m.length, 0, none⟩) 0 0) [] [] [some ⟨flatN [], true, 1⟩] (CopyInts_e none) trivial (by simp) ⟨⟨rfl, rfl, rfl, .inl ⟨rfl, flatN_scal _⟩⟩, trivial⟩ rfl rfl rfl rfl
 ·obtain rfl := List.eq_nil_of_length_eq_zero a1
  exact ACalls.viaS (v := .slice (some ⟨m.length, 0, none⟩) 0 0) [] [] [some ⟨flatN [], true, 1⟩] (CopyInts_e (some ⟨5, 0, some default⟩)) trivial (by simp) ⟨⟨rfl, rfl, rfl, .inl ⟨rfl, flatN_scal _⟩⟩, trivial⟩ rfl rfl rfl rfl
theorem PhasesErr_e (w : Value) (l : List Pn) (h0 : 0 < l.length) (c : Nat) (xa : Option Addr) (o1 o2 : Option Blk) (hr : Mem.ro [o1, o2]) : PCalls Tryz.prog 68 [.agg #[.slice (some ⟨0, 0, none⟩) l.length c, w], .slice xa 0 0] [o1, o2] (.int .i64 10) := by
 refine PCalls.en 26 Tryz.func68 rfl (hr) rfl (fun E => ?_)
 repeat' (first | with_reducible (first | refine Then.n ?_ | refine Then.r ?_) | ((with_reducible refine AL.on ?_); first | ((first | refine AL.mv ?_ | refine AL.as ?_ | ((with_reducible refine AL.k_call ?_); first | refine AL.g (OQ.lenS (xt := 26) (r := (none, 1, false)) rfl kr) ?_ | refine AL.g (OQ.lenS (xt := 22) (r := (none, 2, true)) rfl kr) ?_) | ((with_reducible refine AL.k_binOp ?_); refine AL.g (OQ.neq rfl rfl) ?_) | ((with_reducible refine AL.k_load ?_); (refine AL.g (OQ.load1 (ty := 22) rfl kr wl) ?_)) | ((with_reducible refine AL.k_fieldAddr ?_); refine AL.g (OQ.fieldA (ty := 25) (i := 0) (n := 1) (off := 0) (g := false) rfl kr (by decide)) ?_)); refine AL.nm ?_) | ((refine AL.bx ?_); refine AL.nm ?_; refine AL.nM ?_) | refine AL.nil ?_) | ((with_reducible refine AW.on ?_); first | refine AW.seq ?_ | refine AW.ret ?_ | refine AW.region ?_ | (refine AW.conds rfl (fun hc => ?_) (fun hc => ?_) <;> (try replace hc := nc hc) <;> first | (exfalso; ((omega); done)) | skip)) | ((with_reducible refine FinP.on ?_); (refine FinP.ret (.tmp wl .nil) ?_ rfl); (try simp only [pack, List.drop, List.take]); all_goals (rfl)))
theorem PhasesErr_b (w : Value) (l : List Pn) (ph : List Int) (c c3 z : Nat) (hl : ph.length ≤ 1000000) (o1 o2 : Option Blk) (hr : Mem.ro [o1, o2, some ⟨flatN ph, false, z⟩]) : PCalls Tryz.prog 68 [.agg #[.slice (some ⟨0, 0, none⟩) l.length c, w], .slice (some ⟨2, 0, none⟩) ph.length c3] [o1, o2, some ⟨flatN ph, false, z⟩] (.int .i64 (phE l ph)) := by
 have hg := fun k (hk : k < ph.length) => flatN_get ph k hk
 have hw := fun (n : Int) (m : Mem) => Wrap_q n m
 have e1 := @phE_10 l ph
 have e2 := @phE_2 l ph
 have e3 := @phE_z l ph
 by_cases hne : ph.length ≠ l.length
 ·rw [e1 hne]
  refine PCalls.en 26 Tryz.func68 rfl (hr) rfl (fun E => ?_)
  repeat' (first | with_reducible (first | refine Then.n ?_ | refine Then.r ?_) | ((with_reducible refine AL.on ?_); first | ((first | refine AL.mv ?_ | refine AL.as ?_ | ((with_reducible refine AL.k_call ?_); first | refine AL.g (OQ.lenS (xt := 26) (r := (none, 1, false)) rfl kr) ?_ | refine AL.g (OQ.lenS (xt := 22) (r := (none, 2, true)) rfl kr) ?_) | ((with_reducible refine AL.k_binOp ?_); refine AL.g (OQ.neq rfl rfl) ?_) | ((with_reducible refine AL.k_load ?_); (refine AL.g (OQ.load1 (ty := 22) rfl kr wl) ?_)) | ((with_reducible refine AL.k_fieldAddr ?_); refine AL.g (OQ.fieldA (ty := 25) (i := 0) (n := 1) (off := 0) (g := false) rfl kr (by decide)) ?_)); refine AL.nm ?_) | ((refine AL.bx ?_); refine AL.nm ?_; refine AL.nM ?_) | refine AL.nil ?_) | ((with_reducible refine AW.on ?_); first | refine AW.seq ?_ | refine AW.ret ?_ | refine AW.region ?_ | (refine AW.conds rfl (fun hc => ?_) (fun hc => ?_) <;> (try replace hc := nc hc) <;> first | (exfalso; ((omega); done)) | skip)) | ((with_reducible refine FinP.on ?_); (refine FinP.ret (.tmp wl .nil) ?_ rfl); (try simp only [pack, List.drop, List.take]); all_goals (rfl)))
 ·have hne : ph.length = l.length := Classical.not_not.1 hne
  have e2 := fun k hk h2 => e2 (k := k) hne hk h2
  have e3 := fun h2 => e3 hne h2
  generalize phE l ph = E0 at *
  refine PCalls.en 26 Tryz.func68 rfl (hr) rfl (fun E => ?_)
  repeat' (first | with_reducible (first | refine Then.n ?_ | refine Then.r ?_ | refine Then.x ?_ | refine InB.n ?_ | refine InB.r ?_ | refine InB.hit ?_) | ((with_reducible refine AL.on ?_); first | ((first | refine AL.mv ?_ | refine AL.as ?_ | ((with_reducible refine AL.k_call ?_); first | refine AL.g (OQ.lenS (xt := 26) (r := (none, 1, false)) rfl kr) ?_ | refine AL.g (OQ.lenS (xt := 22) (r := (none, 2, true)) rfl kr) ?_) | ((with_reducible refine AL.k_binOp ?_); first | refine AL.g (OQ.neq rfl rfl) ?_ | refine AL.g (OQ.lss rfl rfl) ?_ | refine AL.g (OQ.addi rfl rfl (by omega)) ?_) | ((with_reducible refine AL.k_load ?_); (refine AL.g (OQ.load1 (ty := 22) rfl kr (by (conv => lhs; whnf))) ?_))); refine AL.nm ?_) | ((refine AL.g (OQ.fieldA (ty := 25) (i := 0) (n := 1) (off := 0) (g := false) rfl kr (by decide)) ?_); refine AL.nm ?_) | ((refine AL.bx ?_); refine AL.nm ?_; refine AL.nM ?_) | refine AL.nil ?_) | ((with_reducible refine AW.on ?_); first | refine AW.seq ?_ | refine AW.skip ?_ | refine AW.exit ?_ | refine AW.ret ?_ | ((refine AW.block (id := 0) ?_); (refine AW.fk [1, 5] ?_); (refine AW.loop (fun n' t' m => ∃ k : Nat, n' = ph.length - k ∧ k ≤ ph.length ∧ (∀ j, j < k → wrI (nt ph j) = nt ph j) ∧ t' = (mtz 28 0 [(1, .slice (some ⟨2, 0, none⟩) ph.length c3), (5, .int .i64 (k))]) ∧ m = [o1, o2, some ⟨flatN ph, false, z⟩, some ⟨[.slice (some ⟨0, 0, none⟩) l.length c, w], true, 0⟩]) (ph.length) (by exact ⟨0, rfl, Nat.zero_le _, fun j h => absurd h (by omega), rfl, rfl⟩) ?_); (rintro n' t' m ⟨k, rfl, hk, hj, rfl, rfl⟩); (refine AW.nT ?_)) | refine AW.block ?_ | (refine AW.drawF (id := 6) 9 #[0, 0, 3, 7, 15, 0, 0, 96, 224, 511] kr kr ?_; (conv => (arg 8; simp only [List.take_succ_cons, List.take_zero]))) | refine AW.region ?_ | (refine AW.conds rfl (fun hc => ?_) (fun hc => ?_) <;> (try replace hc := nc hc) <;> first | (exfalso; ((omega); done)) | skip)) | ((with_reducible refine AF.on ?_); first | ((first | ((with_reducible refine AF.k_move ?_); (refine AF.q 0 (SW.q (OQ.move wl) rfl) ?_)) | ((with_reducible refine AF.k_call ?_); refine AF.q 2 (SW.pcall (g := 23) rfl kr rfl (hw _ _) rfl) ?_) | ((with_reducible refine AF.k_load ?_); (refine AF.ql rfl (SW.q (OQ.load1 (ty := 3) rfl kr (by (exact hg k (by omega)))) rfl) ?_)) | ((with_reducible refine AF.k_indexAddr ?_); refine AF.q 0 (SW.q (OQ.idxAddr (ty := 26) (z := 1) (g := false) rfl rfl kr (by omega) (by omega)) rfl) ?_)); refine AF.nm ?_) | refine AF.nl ?_) | ((with_reducible refine ex_on ?_); (refine ⟨ph.length - (k + 1), _, _, by omega, ?_, k + 1, rfl, by omega, fun j h => (by rcases Nat.lt_or_eq_of_le (Nat.le_of_lt_succ h) with h | rfl; (exact hj j h); omega), rfl, rfl⟩; exact Wk.fk [1, 5] rfl)) | ((with_reducible refine FinP.on ?_); (refine FinP.ret (.tmp wl .nil) ?_ rfl); (try simp only [pack, List.drop, List.take]); all_goals (first | (rw [e2 k (by omega) (by omega)]; done) | (obtain rfl : k = ph.length := (by omega); rw [e3 hj]))))
end Go.Proofs.YtmohcmghbfhdlaaGreat
end
end
/- Chapter 6: Differences and Closures (the program's). -/
section
set_option linter.unusedSimpArgs false
set_option linter.unusedVariables false
section
namespace Go.Proofs.YtmohcmghbfhdlaaGreat
open Go Go.RowKit Go.Ab Go.Me
set_option maxRecDepth 100000
set_option maxHeartbeats 4000000
attribute [local irreducible] OQ OW AL AW AF SW
theorem Differences_y0 (l : List Pn) (ts : List T3) (ph : List Int) (hR : NetR l ts) (hph : phE l ph = 0) (hpl : ph.length ≤ 1000000) (c c2 c3 z z1 z2 : Nat) (hz : z = 0 ∨ z = 2) :
  ACalls Tryz.prog 24 [.agg #[.slice (some ⟨0, 0, none⟩) l.length c, .slice (some ⟨1, 0, none⟩) ts.length c2], .slice (some ⟨2, 0, none⟩) ph.length c3] [some ⟨flatP l, false, z⟩, some ⟨flatT ts, false, z1⟩, some ⟨flatN ph, false, z2⟩]
   (.tuple #[.slice (some ⟨3, 0, none⟩) (edL ts).length INF, .int .i64 0]) [some ⟨flatP l, false, z⟩, some ⟨flatT ts, false, z1⟩, some ⟨flatN ph, false, z2⟩, some ⟨flatN (dfL ts ph), true, 1⟩] := by
 have hop := fun (m : Mem) (hA : ArgN m 0 1 l ts) (F : Blk) (f1 : m.at 2 = some F) (f2 : F.cells = flatN ph) (f3 : F.obj = Ob.plain) => openPhases_y (c := c) (c2 := c2) (c3 := c3) l ts ph hA rfl rfl f1 f2 rfl hpl hR (by decide) f3
 have hdi := fun (m : Mem) (h : OpenN m 4 5 6 0 1 c c2 l ts) (F : Blk) (f1 : m.at 2 = some F) (f2 : F.cells = flatN ph) (f3 : F.obj = Ob.plain) => differences_q (n := ph.length) (c3 := c3) h hR ph hph f1 f2 rfl (by decide) f3
 rw [hph] at hop
 refine ACalls.en 18 Tryz.func24 rfl rfl (fun E hE => ?_)
 repeat' (first | with_reducible (refine Then.n ?_) | ((with_reducible refine AL.on ?_); first | ((first | refine AL.as ?_ | refine AL.mv ?_ | refine AL.et ?_ | ((with_reducible refine AL.k_load ?_); refine AL.g (OQ.loadN (ty := 25) (n := 2) rfl kr kr rfl) ?_) | ((with_reducible refine AL.k_binOp ?_); refine AL.g (OQ.neq rfl rfl) ?_)); refine AL.nm ?_) | ((first | ((with_reducible refine AL.k_call ?_); first | refine AL.acall (g := 65) rfl kr rfl ((by exact hop _ ⟨⟨_, rfl, rfl, hz, rfl⟩, ⟨_, rfl, rfl, rfl⟩, by decide⟩ _ rfl rfl rfl)) ?_ | refine AL.acall (g := 67) rfl kr rfl ((by exact hdi _ ⟨⟨_, rfl, rfl, rfl⟩, ⟨_, rfl, rfl, rfl⟩, ⟨_, rfl, rfl, rfl⟩, ⟨_, rfl⟩, ⟨_, rfl, rfl, rfl⟩⟩ _ rfl rfl rfl)) ?_) | refine AL.bx ?_); refine AL.nm ?_; refine AL.nM ?_) | refine AL.nil ?_) | ((with_reducible refine AW.on ?_); first | refine AW.seq ?_ | refine AW.skip ?_ | refine AW.ret ?_ | refine AW.region ?_ | (refine AW.conds rfl (fun hc => ?_) (fun hc => ?_) <;> (try replace hc := nc hc) <;> first | (exfalso; contradiction) | skip)) | ((with_reducible refine FinA.on ?_); (refine FinA.keep 3 [7] (.inl rfl) (.tmp wl (.tmp wl .nil)) ?_ rfl (Nat.le_of_eq hE) rfl rfl ⟨kl rfl (flatP_scal l), kl rfl (flatT_scal ts), kl rfl (flatN_scal _), kl rfl (flatN_scal _), trivial⟩; rfl)))
theorem Differences_y {m : Mem} {bP bT bF n k j c c2 c3 : Nat} {F : Blk} (l : List Pn) (ts : List T3) (ph : List Int) (hA : ArgN m bP bT l ts) (hn : l.length = n) (hk : ts.length = k) (f1 : m.at bF = some F) (f2 : F.cells = flatN ph) (hj : ph.length = j) (hR : NetR l ts) (hph : phE l ph = 0) (hpl : ph.length ≤ 1000000) (hd : [bP, bT, bF].Nodup) (f3 : F.obj = Ob.plain := by rfl) :
  ACalls Tryz.prog 24 [.agg #[.slice (some ⟨bP, 0, none⟩) n c, .slice (some ⟨bT, 0, none⟩) k c2], .slice (some ⟨bF, 0, none⟩) j c3] m (.tuple #[.slice (some ⟨m.length, 0, none⟩) (edL ts).length INF, .int .i64 0]) (m ++ [some ⟨flatN (dfL ts ph), true, 1⟩]) := by
 subst hn hk hj
 obtain ⟨⟨A, h1, h2, h3, h4⟩, ⟨B, h5, h6, h7⟩, _⟩ := hA
 have h := ACalls.viaS (m := m) (args := [.agg #[.slice (some ⟨bP, 0, none⟩) l.length c, .slice (some ⟨bT, 0, none⟩) ts.length c2], .slice (some ⟨bF, 0, none⟩) ph.length c3]) (v := .tuple #[.slice (some ⟨m.length, 0, none⟩) (edL ts).length INF, .int .i64 0]) [bP, bT, bF] [] [some ⟨flatN (dfL ts ph), true, 1⟩] (Differences_y0 l ts ph hR hph hpl c c2 c3 A.esz B.esz F.esz h3) ⟨bS h1 h4 h2 (flatP_scal _), bS h5 h7 h6 (flatT_scal _), bS f1 f3 f2 (flatN_scal _), trivial⟩ hd ⟨⟨_, rfl, rfl⟩, ⟨_, rfl, rfl⟩, ⟨_, rfl, rfl⟩, ⟨rfl, rfl, rfl, .inl ⟨rfl, flatN_scal _⟩⟩, trivial⟩ rfl rfl rfl rfl
 exact h
end Go.Proofs.YtmohcmghbfhdlaaGreat
end
end
/- Chapter 6: the reference's edges and sides are the program's (plain). -/
section
set_option linter.unusedSimpArgs false
set_option linter.unusedVariables false
namespace Go.Me
open Go.Ab Go.Proofs.YtmohcmghbfhdlaaGreat
set_option maxRecDepth 100000
theorem lf_tri' {ts : List T3} {p : IE × Int} : ∀ n, p ∈ lf ts n → ∃ j : Nat, j < n ∧ (p.1 = ((tr ts j).1, (tr ts j).2.1) ∨ p.1 = ((tr ts j).2.1, (tr ts j).2.2) ∨ p.1 = ((tr ts j).2.2, (tr ts j).1))
 | 0, h => by unfold lf at h; cases h
 | n + 1, h => by
  unfold lf at h
  simp only [List.mem_append, List.mem_singleton] at h
  rcases h with ((h | h) | h) | h
  ·obtain ⟨j, h1, h2⟩ := lf_tri' n h
   exact ⟨j, by omega, h2⟩
  ·exact ⟨n, by omega, .inl (by rw [h])⟩
  ·exact ⟨n, by omega, .inr (.inl (by rw [h]))⟩
  ·exact ⟨n, by omega, .inr (.inr (by rw [h]))⟩
theorem lf_ne {l : List Pn} {ts : List T3} (h : NetR l ts) {p : IE × Int} (hp : p ∈ lfA ts) : p.1.1 ≠ p.1.2 := fun e => by
 obtain ⟨j, hj, h1⟩ := lf_tri' _ hp
 obtain ⟨_, h2, h3, _⟩ := trK_0 (h.all j hj)
 unfold ordB at h2
 unfold trS at h3
 rcases h1 with h1 | h1 | h1
 ·rw [h1] at e; simp only at e; omega
 ·rw [h1] at e; simp only at e
  rw [e, show cr (pt l (tr ts j).1.toNat) (pt l (tr ts j).2.2.toNat) (pt l (tr ts j).2.2.toNat) = 0 from cr_self _ _] at h3
  cases h3
 ·rw [h1] at e; simp only at e; omega
theorem pkE_at {l : List Pn} {ts : List T3} (h : NetR l ts) {p : IE × Int} (hp : p ∈ lfA ts) {x : Pn} (hx : x ∈ pkE (lfA ts) p.1) : x.x < x.y ∧ ((p.1 = (x.x, x.y)) ∨ (p.1 = (x.y, x.x) ∧ lk (lfA ts) (x.x, x.y) = -1)) := by
 have hne := lf_ne h hp
 obtain ⟨⟨a, b⟩, i⟩ := p
 unfold pkE at hx
 simp only at hx hne ⊢
 split at hx
 ·rename_i hs
  rw [List.mem_singleton] at hx
  subst hx
  simp only
  by_cases hab : a < b
  ·rw [if_neg (by omega), if_pos (show b > a by omega)]
   exact ⟨hab, .inl rfl⟩
  ·rw [if_pos (show b < a by omega), if_neg (show ¬ b > a by omega)]
   exact ⟨by omega, .inr ⟨rfl, hs.resolve_left hab⟩⟩
 ·cases hx
theorem edL_mem {l : List Pn} {ts : List T3} (h : NetR l ts) {x : Pn} : x ∈ edL ts ↔ x.x < x.y ∧ (lk (lfA ts) (x.x, x.y) ≠ -1 ∨ lk (lfA ts) (x.y, x.x) ≠ -1) := by
 unfold edL
 rw [(sortE_perm _).mem_iff]
 unfold eqS
 have hr := fun (F : Nat → List Pn) => List.mem_flatMap (f := F) (b := x) (l := List.range (lfA ts).length)
 rw [hr]
 constructor
 ·rintro ⟨j, hj, hx⟩
  rw [List.mem_range] at hj
  unfold pk at hx
  rw [List.getElem?_eq_getElem hj] at hx
  have hp := List.getElem_mem hj
  obtain ⟨h1, h2⟩ := pkE_at h hp hx
  refine ⟨h1, ?_⟩
  have hk : ((lfA ts)[j]).1 ∈ (lfA ts).map (·.1) := List.mem_map.2 ⟨_, hp, rfl⟩
  rcases h2 with h2 | ⟨h2, _⟩
  ·rw [h2] at hk
   exact .inl fun hh => (lk_no h).1 hh hk
  ·rw [h2] at hk
   exact .inr fun hh => (lk_no h).1 hh hk
 ·rintro ⟨h1, h2⟩
  have key : ∀ e : IE, lk (lfA ts) e ≠ -1 → ∃ (j : Nat) (i : Int), (lfA ts)[j]? = some (e, i) := fun e he => by
   have : e ∈ (lfA ts).map (·.1) := Classical.byContradiction fun hh => he (lk_not hh)
   obtain ⟨p, hp, rfl⟩ := List.mem_map.1 this
   obtain ⟨j, hj⟩ := List.mem_iff_getElem?.1 hp
   exact ⟨j, p.2, hj⟩
  by_cases h3 : lk (lfA ts) (x.x, x.y) ≠ -1
  ·obtain ⟨j, i, hj⟩ := key _ h3
   refine ⟨j, List.mem_range.2 (List.getElem?_eq_some_iff.1 hj).1, ?_⟩
   unfold pk
   rw [hj]
   show x ∈ pkE (lfA ts) (x.x, x.y)
   unfold pkE
   rw [if_pos (.inl h1)]
   simp only
   rw [if_neg (by omega), if_pos (by omega)]
   exact List.mem_singleton.2 rfl
  ·obtain ⟨j, i, hj⟩ := key _ (h2.resolve_left h3)
   refine ⟨j, List.mem_range.2 (List.getElem?_eq_some_iff.1 hj).1, ?_⟩
   unfold pk
   rw [hj]
   show x ∈ pkE (lfA ts) (x.y, x.x)
   unfold pkE
   rw [if_pos (.inr (Classical.not_not.1 h3))]
   simp only
   rw [if_pos (by omega), if_neg (by omega)]
   exact List.mem_singleton.2 rfl
theorem eqS_flat (ts : List T3) : eqS ts (List.range (lfA ts).length) = (lfA ts).flatMap fun p => pkE (lfA ts) p.1 := by
 have e : ∀ k, k ≤ (lfA ts).length → (List.range k).flatMap (pk ts) = ((lfA ts).take k).flatMap fun p => pkE (lfA ts) p.1 := fun k => by
  induction k with
  | zero => intro _; rfl
  | succ k ih =>
   intro hk
   have hg : (lfA ts)[k]? = some (lfA ts)[k] := List.getElem?_eq_getElem (by omega)
   have hpk : pk ts k = pkE (lfA ts) ((lfA ts)[k]).1 := by unfold pk; rw [hg]
   rw [List.range_succ, List.flatMap_append, ih (by omega), List.take_add_one, List.flatMap_append, hg]
   simp [hpk]
 have := e _ (Nat.le_refl _)
 rw [List.take_length] at this
 exact this
theorem edL_nodup {l : List Pn} {ts : List T3} (h : NetR l ts) : (edL ts).Nodup := by
 unfold edL
 rw [(sortE_perm _).nodup_iff, eqS_flat]
 unfold List.Nodup
 rw [List.pairwise_flatMap]
 refine ⟨fun p _ => ?_, ?_⟩
 ·unfold pkE
  split
  ·exact List.pairwise_singleton _ _
  ·exact List.Pairwise.nil
 ·have h2 : ((lfA ts).map (·.1)).Nodup := h.ok.nd
  unfold List.Nodup at h2
  rw [List.pairwise_map] at h2
  refine h2.imp_of_mem fun {p q} hp hq hne x hx y hy e => ?_
  subst e
  obtain ⟨_, a2⟩ := pkE_at h hp hx
  obtain ⟨_, b2⟩ := pkE_at h hq hy
  have hkp : p.1 ∈ (lfA ts).map (·.1) := List.mem_map.2 ⟨p, hp, rfl⟩
  have hkq : q.1 ∈ (lfA ts).map (·.1) := List.mem_map.2 ⟨q, hq, rfl⟩
  rcases a2 with a2 | ⟨a2, a3⟩ <;> rcases b2 with b2 | ⟨b2, b3⟩
  ·exact hne (a2.trans b2.symm)
  ·rw [a2] at hkp
   exact (lk_no h).1 b3 hkp
  ·rw [b2] at hkq
   exact (lk_no h).1 a3 hkq
  ·exact hne (a2.trans b2.symm)
def reP (ts : List T3) (i k : Nat) : List Pn := if lk (lfA ts) ((i : Int), (k : Int)) ≠ -1 ∨ lk (lfA ts) ((k : Int), (i : Int)) ≠ -1 then [⟨i, k⟩] else []
def reI (ts : List T3) (i : Nat) : Nat → List Pn
 | 0 => []
 | j + 1 => reI ts i j ++ reP ts i (i + 1 + j)
def reE (ts : List T3) (n : Nat) : Nat → List Pn
 | 0 => []
 | i + 1 => reE ts n i ++ reI ts i (n - 1 - i)
theorem reI_mem {ts : List T3} {i : Nat} {x : Pn} : ∀ j, x ∈ reI ts i j ↔ ∃ k : Nat, i < k ∧ k < i + 1 + j ∧ x = ⟨i, k⟩ ∧ (lk (lfA ts) ((i : Int), (k : Int)) ≠ -1 ∨ lk (lfA ts) ((k : Int), (i : Int)) ≠ -1)
 | 0 => by
  unfold reI
  constructor
  ·intro h; cases h
  ·rintro ⟨k, h1, h2, _⟩
   omega
 | j + 1 => by
  unfold reI
  rw [List.mem_append, reI_mem j]
  unfold reP
  constructor
  ·rintro (⟨k, h1, h2, h3, h4⟩ | hx)
   ·exact ⟨k, h1, by omega, h3, h4⟩
   ·split at hx
    ·rename_i hc
     rw [List.mem_singleton] at hx
     exact ⟨i + 1 + j, by omega, by omega, hx, hc⟩
    ·cases hx
  ·rintro ⟨k, h1, h2, h3, h4⟩
   by_cases hk : k = i + 1 + j
   ·subst hk
    rw [if_pos h4]
    exact .inr (List.mem_singleton.2 h3)
   ·exact .inl ⟨k, h1, by omega, h3, h4⟩
theorem reE_mem {ts : List T3} {n : Nat} {x : Pn} : ∀ i, i ≤ n → (x ∈ reE ts n i ↔ ∃ a k : Nat, a < i ∧ a < k ∧ k < n ∧ x = ⟨a, k⟩ ∧ (lk (lfA ts) ((a : Int), (k : Int)) ≠ -1 ∨ lk (lfA ts) ((k : Int), (a : Int)) ≠ -1))
 | 0, _ => by
  unfold reE
  constructor
  ·intro h; cases h
  ·rintro ⟨a, k, h1, _⟩
   omega
 | i + 1, hi => by
  unfold reE
  rw [List.mem_append, reE_mem i (by omega), reI_mem]
  constructor
  ·rintro (⟨a, k, h1, h2⟩ | ⟨k, h1, h2, h3⟩)
   ·exact ⟨a, k, by omega, h2⟩
   ·exact ⟨i, k, by omega, h1, by omega, h3⟩
  ·rintro ⟨a, k, h1, h2, h3, h4⟩
   by_cases ha : a = i
   ·subst ha
    exact .inr ⟨k, h2, by omega, h4⟩
   ·exact .inl ⟨a, k, by omega, h2, h3, h4⟩
theorem reI_sorted (ts : List T3) (i : Nat) : ∀ j, (reI ts i j).Pairwise lexLt
 | 0 => List.Pairwise.nil
 | j + 1 => by
  unfold reI
  rw [List.pairwise_append]
  refine ⟨reI_sorted ts i j, ?_, fun x hx y hy => ?_⟩
  ·unfold reP
   split
   ·exact List.pairwise_singleton _ _
   ·exact List.Pairwise.nil
  ·obtain ⟨k, h1, h2, rfl, _⟩ := (reI_mem j).1 hx
   unfold reP at hy
   split at hy
   ·rw [List.mem_singleton] at hy
    subst hy
    refine .inr ⟨rfl, ?_⟩
    show (k : Int) < ((i + 1 + j : Nat) : Int)
    omega
   ·cases hy
theorem reE_sorted (ts : List T3) (n : Nat) : ∀ i, i ≤ n → (reE ts n i).Pairwise lexLt
 | 0, _ => List.Pairwise.nil
 | i + 1, hi => by
  unfold reE
  rw [List.pairwise_append]
  refine ⟨reE_sorted ts n i (by omega), reI_sorted ts i _, fun x hx y hy => ?_⟩
  obtain ⟨a, k, h1, _, _, rfl, _⟩ := (reE_mem i (by omega)).1 hx
  obtain ⟨b, _, _, rfl, _⟩ := (reI_mem _).1 hy
  unfold lexLt
  simp only
  omega
theorem reE_edL {l : List Pn} {ts : List T3} (h : NetR l ts) : reE ts l.length l.length = edL ts := by
 have hs := reE_sorted ts l.length l.length (Nat.le_refl _)
 have hns : ∀ {x y : Pn}, lexLt x y → ¬ lexLt y x := fun {x y} h1 h2 => by
  unfold lexLt at h1 h2
  omega
 refine sorted_uniq ?_ (hs.imp hns) ?_
 ·refine (List.perm_ext_iff_of_nodup ?_ (edL_nodup h)).2 fun x => ?_
  ·unfold List.Nodup
   refine hs.imp fun {x y} h1 e => ?_
   subst e
   exact hns h1 h1
  ·rw [reE_mem _ (Nat.le_refl _), edL_mem h]
   constructor
   ·rintro ⟨a, k, h1, h2, h3, rfl, h4⟩
    exact ⟨by simp only; omega, h4⟩
   ·rintro ⟨h1, h2⟩
    have hx := (edL_mem h).2 ⟨h1, h2⟩
    obtain ⟨⟨r1, r2⟩, r3, r4⟩ := edL_rng h.ok x hx
    refine ⟨x.x.toNat, x.y.toNat, by omega, by omega, by omega, ?_, ?_⟩
    ·obtain ⟨a, b⟩ := x
     simp only at r1 r3 ⊢
     rw [Int.toNat_of_nonneg r1, Int.toNat_of_nonneg r3]
    ·rw [Int.toNat_of_nonneg r1, Int.toNat_of_nonneg r3]
     exact h2
 ·unfold edL
  exact sortE_pair _
end Go.Me
end
