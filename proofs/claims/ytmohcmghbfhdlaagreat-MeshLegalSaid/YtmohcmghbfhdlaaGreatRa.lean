/- Chapter 6: the reference's check of a net whose lists have any form. -/
import Derived.Test.YtmohcmghbfhdlaaGreatQd
import Derived.Test.YtmohcmghbfhdlaaGreatQz
import Derived.Test.YtmohcmghbfhdlaaGreatQk
import Derived.Test.YtmohcmghbfhdlaaGreatQr
import Derived.Test.YtmohcmghbfhdlaaGreatQe
section
set_option linter.unusedSimpArgs false
set_option linter.unusedVariables false
section
namespace Go.Me
open Go.Ab Go.Ls
theorem ok1_all {n : Nat} {cs : List Value} (h : cs.all scal = true) : cs.all (ok1 n) = true := List.all_eq_true.2 fun v hv => ok1_scal (List.all_eq_true.1 h v hv)
theorem PCalls.two {P : Program} {f : FuncId} {args : List Value} {m : Mem} {cs ds : List Value} {v : Value} (h : PCalls P f args [blX cs, blX ds] v) (hs : cs.all scal = true) (ht : ds.all scal = true) (e0 : m.at 0 = blX cs) (e1 : m.at 1 = blX ds)
    (ha : args.map (rn3 fun b => b) = args) (hk : args.all (ok3 2) = true) (hv : rn3 (fun b => b) v = v) (hkv : ok3 2 v = true) : PCalls P f args m v := by
  refine PCalls.wide h (fun b blk hb => ?_) ha hk hv hkv
  match b, hb with
  | 0, hb =>
    have hb' : blX cs = some blk := hb
    refine ⟨blX_ro _ _ hb', ?_, blk, e0.trans hb', ?_, rfl⟩
    · unfold blX at hb'
      split at hb'
      · cases hb'
      · cases hb'; exact ok1_all hs
    · unfold blX at hb'
      split at hb'
      · cases hb'
      · cases hb'; rfl
  | 1, hb =>
    have hb' : blX ds = some blk := hb
    refine ⟨blX_ro _ _ hb', ?_, blk, e1.trans hb', ?_, rfl⟩
    · unfold blX at hb'
      split at hb'
      · cases hb'
      · cases hb'; exact ok1_all ht
    · unfold blX at hb'
      split at hb'
      · cases hb'
      · cases hb'; rfl
end Go.Me
namespace Go.Proofs.YtmohcmghbfhdlaaGreat
open Go Go.RowKit Go.Ab Go.Me
set_option maxRecDepth 100000
set_option maxHeartbeats 4000000
attribute [local irreducible] OQ OW AL AW AF SW
theorem rCP_x (xa : Option Addr) : PCalls Tryz.prog 59 [.slice xa 0 0] [] (.tuple #[.int .i64 0, .int .i64 0]) := by
  refine PCalls.en 21 Tryz.func59 rfl (ro0) rfl (fun E => ?_)
  repeat' (first | with_reducible (first | refine Then.n ?_ | refine Then.x ?_ | refine InB.hit ?_) | ((with_reducible refine AL.on ?_); first | ((first | refine AL.as ?_ | refine AL.mv ?_ | ((with_reducible refine AL.k_binOp ?_); first | refine AL.g (OQ.gtr rfl rfl) ?_ | refine AL.g (OQ.lss rfl rfl) ?_) | ((with_reducible refine AL.k_call ?_); refine AL.g (OQ.lenS (xt := 22) (r := (none, 2, true)) rfl kr) ?_)); refine AL.nm ?_) | refine AL.nil ?_) | ((with_reducible refine AW.on ?_); first | refine AW.seq ?_ | refine AW.skip ?_ | refine AW.exit ?_ | refine AW.ret ?_ | (refine AW.block (id := 0) ?_; refine AW.unroll 1 ?_) | refine AW.region ?_ | (refine AW.conds rfl (fun hc => ?_) (fun hc => ?_) <;> (try replace hc := nc hc) <;> first | (exfalso; contradiction) | skip)) | with_reducible refine AR.s ?_ | ((with_reducible refine FinP.on ?_); (refine FinP.ret (.tmp wl (.tmp wl .nil)) ?_ rfl); (try simp only [pack, List.drop, List.take]); all_goals (rfl)))
theorem rCP_n (m : Mem) : PCalls Tryz.prog 59 [.slice none 0 0] m (.tuple #[.int .i64 0, .int .i64 0]) := PCalls.any (rCP_x none) rfl rfl m
theorem rCP_l (m : Mem) : PCalls Tryz.prog 59 [lostV] m (.tuple #[.int .i64 0, .int .i64 0]) := PCalls.viaS (m0 := []) (args0 := [lostV]) (v0 := .tuple #[.int .i64 0, .int .i64 0]) [] (rCP_x _) (fun b blk h => by simp [Mem.at] at h) trivial rfl rfl rfl rfl
theorem rCP_v (xa : Option Addr) (h : xa = none ∨ xa = some ⟨0, 0, some default⟩) (m : Mem) : PCalls Tryz.prog 59 [.slice xa 0 0] m (.tuple #[.int .i64 0, .int .i64 0]) := by
  rcases h with rfl | rfl
  · exact rCP_n m
  · exact rCP_l m
theorem cp_nil : cpA [] = 0 ∧ cpB [] = 0 := ⟨by kernel_rfl, by kernel_rfl⟩
theorem rCP_g {m : Mem} {i : Nat} {v : Value} {l : List Pn} (h : SlV m i v (flatP l) l.length) (hl : l.length ≤ 1000000) : PCalls Tryz.prog 59 [v] m (.tuple #[.int .i64 (cpA l), .int .i64 (cpB l)]) := by
  rcases h with ⟨k, h0, rfl, h2, h3, h4⟩ | ⟨h1, rfl⟩ | ⟨h1, rfl⟩
  · exact rCheckPoints_q l h2 h3 rfl hl h4
  · obtain rfl := List.eq_nil_of_length_eq_zero h1
    rw [cp_nil.1, cp_nil.2]
    exact rCP_n m
  · obtain rfl := List.eq_nil_of_length_eq_zero h1
    rw [cp_nil.1, cp_nil.2]
    exact rCP_l m
theorem rCheckNet_c (v w : Value) (l : List Pn) (o1 o2 : Option Blk) (hr : Mem.ro [o1, o2]) (hv : SlV [o1, o2] 0 v (flatP l) l.length) (hl : l.length ≤ 1000000) (h0 : cpB l ≠ 0) : PCalls Tryz.prog 29 [.agg #[v, w]] [o1, o2] (.tuple #[.int .i64 0, .int .i64 (cpB l)]) := by
  have hcp := fun (m : Mem) (e0 : m.at 0 = Mem.at [o1, o2] 0) => rCP_g (m := m) (hv.of e0) hl
  generalize cpB l = E0 at *
  generalize cpA l = A0 at *
  refine PCalls.en 205 Tryz.func29 rfl (hr) rfl (fun E => ?_)
  repeat' (first | with_reducible (first | refine Then.n ?_ | refine Then.r ?_) | ((with_reducible refine AL.on ?_); first | ((first | refine AL.mv ?_ | refine AL.as ?_ | ((with_reducible refine AL.k_load ?_); (refine AL.g (OQ.load1 (ty := 22) rfl kr wl) ?_)) | ((with_reducible refine AL.k_binOp ?_); refine AL.g (OQ.neq rfl rfl) ?_) | ((with_reducible refine AL.k_fieldAddr ?_); refine AL.g (OQ.fieldA (ty := 25) (i := 0) (n := 1) (off := 0) (g := false) rfl kr (by decide)) ?_) | refine AL.et ?_); refine AL.nm ?_) | ((refine AL.pcall (g := 59) rfl kr rfl ((by exact hcp _ rfl)) ?_); refine AL.nm ?_) | ((refine AL.bx ?_); refine AL.nm ?_; refine AL.nM ?_) | refine AL.nil ?_) | ((with_reducible refine AW.on ?_); first | refine AW.seq ?_ | refine AW.ret ?_ | refine AW.region ?_ | (refine AW.conds rfl (fun hc => ?_) (fun hc => ?_) <;> (try replace hc := nc hc) <;> first | (exfalso; contradiction) | skip)) | ((with_reducible refine FinP.on ?_); (refine FinP.ret (.tmp wl (.tmp wl .nil)) ?_ rfl); (try simp only [pack, List.drop, List.take]); all_goals (rfl)))
theorem rCheckNet_8 (v : Value) (l : List Pn) (ts : List T3) (c2 : Nat) (o1 o2 : Option Blk) (hr : Mem.ro [o1, o2]) (hv : SlV [o1, o2] 0 v (flatP l) l.length) (hl : l.length ≤ 1000000) (h0 : cpB l = 0) (h8 : 80 < ts.length) : PCalls Tryz.prog 29 [.agg #[v, .slice (some ⟨1, 0, none⟩) ts.length c2]] [o1, o2] (.tuple #[.int .i64 0, .int .i64 8]) := by
  have hcp := fun (m : Mem) (e0 : m.at 0 = Mem.at [o1, o2] 0) => rCP_g (m := m) (hv.of e0) hl
  rw [h0] at hcp
  generalize cpA l = A0 at *
  refine PCalls.en 205 Tryz.func29 rfl (hr) rfl (fun E => ?_)
  repeat' (first | with_reducible (first | refine Then.n ?_ | refine Then.r ?_) | ((with_reducible refine AL.on ?_); first | ((first | refine AL.mv ?_ | refine AL.as ?_ | ((with_reducible refine AL.k_load ?_); first | (refine AL.g (OQ.load1 (ty := 22) rfl kr wl) ?_) | (refine AL.g (OQ.load1 (ty := 23) rfl kr wl) ?_)) | ((with_reducible refine AL.k_binOp ?_); first | refine AL.g (OQ.neq rfl rfl) ?_ | refine AL.g (OQ.gtr rfl rfl) ?_) | ((with_reducible refine AL.k_fieldAddr ?_); first | refine AL.g (OQ.fieldA (ty := 25) (i := 0) (n := 1) (off := 0) (g := false) rfl kr (by decide)) ?_ | refine AL.g (OQ.fieldA (ty := 25) (i := 1) (n := 1) (off := 1) (g := false) rfl kr (by decide)) ?_) | ((with_reducible refine AL.k_call ?_); refine AL.g (OQ.lenS (xt := 23) (r := (none, 3, true)) rfl kr) ?_) | refine AL.et ?_); refine AL.nm ?_) | ((refine AL.pcall (g := 59) rfl kr rfl ((by exact hcp _ rfl)) ?_); refine AL.nm ?_) | ((refine AL.bx ?_); refine AL.nm ?_; refine AL.nM ?_) | refine AL.nil ?_) | ((with_reducible refine AW.on ?_); first | refine AW.seq ?_ | refine AW.skip ?_ | refine AW.ret ?_ | refine AW.region ?_ | (refine AW.conds rfl (fun hc => ?_) (fun hc => ?_) <;> (try replace hc := nc hc) <;> first | (exfalso; first | contradiction | (omega); done) | skip)) | ((with_reducible refine FinP.on ?_); (refine FinP.ret (.tmp wl (.tmp wl .nil)) ?_ rfl); (try simp only [pack, List.drop, List.take]); all_goals (rfl)))
theorem rCheckNet_6 (xa : Option Addr) (hxa : xa = none ∨ xa = some ⟨0, 0, some default⟩) (ts : List T3) (c2 z : Nat) (h1 : 0 < ts.length) (h8 : ts.length ≤ 80) : PCalls Tryz.prog 29 [.agg #[.slice xa 0 0, .slice (some ⟨1, 0, none⟩) ts.length c2]] [none, some ⟨flatT ts, false, z⟩] (.tuple #[.int .i64 0, .int .i64 6]) := by
  have hcp := fun (m : Mem) => rCP_v xa hxa m
  have hldT := fun (k : Nat) (hk : k < ts.length) (a : Option Blk) (r : Mem) => flatT_ld (m := a :: some ⟨flatT ts, false, z⟩ :: r) (b := 1) (ts := ts) rfl rfl k hk
  have hw := fun (x a b : Int) (m : Mem) => rWithin_q x a b m
  refine PCalls.en 205 Tryz.func29 rfl ((fun k blk hk => by match k, hk with | 1, hk => cases hk; rfl)) rfl (fun E => ?_)
  repeat' (first | with_reducible (first | refine Then.n ?_ | refine Then.r ?_ | refine InB.r ?_) | ((with_reducible refine AL.on ?_); first | ((first | refine AL.mv ?_ | refine AL.as ?_ | ((with_reducible refine AL.k_load ?_); first | (refine AL.g (OQ.load1 (ty := 22) rfl kr (by (conv => lhs; whnf))) ?_) | (refine AL.g (OQ.load1 (ty := 23) rfl kr (by (conv => lhs; whnf))) ?_) | refine AL.g (OQ.loadN (ty := 62) (n := 3) rfl kr kr (by (exact hldT 0 (by omega) _ _))) ?_) | ((with_reducible refine AL.k_binOp ?_); first | refine AL.g (OQ.neq rfl rfl) ?_ | refine AL.g (OQ.gtr rfl rfl) ?_ | refine AL.g (OQ.lss rfl rfl) ?_) | ((with_reducible refine AL.k_call ?_); refine AL.g (OQ.lenS (xt := 23) (r := (none, 3, true)) rfl kr) ?_) | ((with_reducible refine AL.k_unOp ?_); refine AL.g (OQ.not rfl) ?_) | refine AL.et ?_); refine AL.nm ?_) | ((first | ((with_reducible refine AL.k_fieldAddr ?_); first | refine AL.g (OQ.fieldA (ty := 25) (i := 0) (n := 1) (off := 0) (g := false) rfl kr (by decide)) ?_ | refine AL.g (OQ.fieldA (ty := 25) (i := 1) (n := 1) (off := 1) (g := false) rfl kr (by decide)) ?_) | ((with_reducible refine AL.k_indexAddr ?_); refine AL.g (OQ.idxAddr (ty := 23) (z := 3) (g := true) rfl rfl kr (by omega) (by omega)) ?_) | ((with_reducible refine AL.k_call ?_); first | refine AL.pcall (g := 59) rfl kr rfl ((by exact hcp _)) ?_ | refine AL.pcall (g := 69) rfl kr rfl ((by exact hw _ _ _ _)) ?_)); refine AL.nm ?_) | ((first | ((with_reducible refine AL.k_alloc ?_); refine AL.w rfl (OW.alloc (ty := 62) (z := [.int .i64 0, .int .i64 0, .int .i64 0]) kr rfl) ?_) | ((with_reducible refine AL.k_store ?_); (refine AL.w rfl (OW.store (ty := 62) (n := 3) rfl wl rfl rfl kr rfl rfl (by decide) rfl (Nat.le_of_ble_eq_true rfl) (by intro r h; cases h)) ?_)) | refine AL.bx ?_); refine AL.nm ?_; refine AL.nM ?_) | refine AL.nil ?_) | ((with_reducible refine AW.on ?_); first | refine AW.seq ?_ | refine AW.skip ?_ | refine AW.ret ?_ | (refine AW.block (id := 0) ?_; refine AW.unroll 2 ?_) | (refine AW.block (id := 2) ?_; refine AW.unroll 2 ?_) | refine AW.block ?_ | (refine AW.drawF (id := 14) 7 #[0, 1, 3, 0, 8, 24, 56, 127, 255] kr kr ?_; (conv => (arg 8; simp only [List.take_succ_cons, List.take_zero]))) | refine AW.region ?_ | (refine AW.conds rfl (fun hc => ?_) (fun hc => ?_) <;> (try replace hc := nc hc) <;> first | (exfalso; first | contradiction | (first | omega | (have := rgB_ye hc; omega)); done) | skip)) | ((with_reducible refine AF.on ?_); first | ((first | ((with_reducible refine AF.k_move ?_); (refine AF.q 0 (SW.q (OQ.move wl) rfl) ?_)) | ((with_reducible refine AF.k_load ?_); first | (refine AF.ql rfl (SW.q (OQ.load1 (ty := 3) rfl kr (by (conv => lhs; whnf))) rfl) ?_) | (refine AF.ql rfl (SW.q (OQ.load1 (ty := 22) rfl kr (by (conv => lhs; whnf))) rfl) ?_)) | ((with_reducible refine AF.k_binOp ?_); refine AF.q 0 (SW.q (OQ.subi rfl rfl (by omega)) rfl) ?_) | ((with_reducible refine AF.k_indexAddr ?_); refine AF.q 0 (SW.q (OQ.idxPtr (ty := 62) (n := 1) (l := 3) (g := false) rfl rfl kr (by omega) (by omega)) rfl) ?_) | ((with_reducible refine AF.k_fieldAddr ?_); refine AF.q 0 (SW.q (OQ.fieldA (ty := 25) (i := 0) (n := 1) (off := 0) (g := false) rfl kr (by decide)) rfl) ?_) | ((with_reducible refine AF.k_call ?_); refine AF.q 0 (SW.q (OQ.lenS (xt := 22) (r := (none, 2, true)) rfl kr) rfl) ?_)); refine AF.nm ?_) | refine AF.nl ?_) | with_reducible refine AR.s ?_ | ((with_reducible refine FinP.on ?_); (refine FinP.ret (.tmp wl (.tmp wl .nil)) ?_ rfl); (try simp only [pack, List.drop, List.take]); all_goals (rfl)))
theorem rCheckNet_14 (xa : Option Addr) (v : Value) (l : List Pn) (o1 o2 : Option Blk) (hr : Mem.ro [o1, o2]) (hv : SlV [o1, o2] 0 v (flatP l) l.length) (hl : l.length ≤ 1000000) (h0 : cpB l = 0) : PCalls Tryz.prog 29 [.agg #[v, .slice xa 0 0]] [o1, o2] (.tuple #[.int .i64 0, .int .i64 14]) := by
  have hcp := fun (m : Mem) (e0 : m.at 0 = Mem.at [o1, o2] 0) => rCP_g (m := m) (hv.of e0) hl
  rw [h0] at hcp
  generalize cpA l = A0 at *
  refine PCalls.en 205 Tryz.func29 rfl (hr) rfl (fun E => ?_)
  repeat' (first | with_reducible (first | refine Then.n ?_ | refine Then.r ?_ | refine Then.x ?_ | refine InB.hit ?_) | ((with_reducible refine AL.on ?_); first | (refine AL.gd rfl ?_; (refine AL.gs0 rfl rfl (fun hc => ?_) (fun hc => ?_) <;> (try replace hc := nc hc) <;> first | (exfalso; contradiction) | refine AL.nm ?_)) | ((first | refine AL.mv ?_ | refine AL.as ?_ | ((with_reducible refine AL.k_load ?_); first | (refine AL.g (OQ.load1 (ty := 22) rfl kr wl) ?_) | (refine AL.g (OQ.load1 (ty := 23) rfl kr wl) ?_)) | ((with_reducible refine AL.k_binOp ?_); first | refine AL.g (OQ.neq rfl rfl) ?_ | refine AL.g (OQ.gtr rfl rfl) ?_ | refine AL.g (OQ.lss rfl rfl) ?_ | refine AL.g (OQ.eql rfl rfl) ?_) | ((with_reducible refine AL.k_fieldAddr ?_); first | refine AL.g (OQ.fieldA (ty := 25) (i := 0) (n := 1) (off := 0) (g := false) rfl kr (by decide)) ?_ | refine AL.g (OQ.fieldA (ty := 25) (i := 1) (n := 1) (off := 1) (g := false) rfl kr (by decide)) ?_) | ((with_reducible refine AL.k_call ?_); refine AL.g (OQ.lenS (xt := 23) (r := (none, 3, true)) rfl kr) ?_) | refine AL.pT ?_ | refine AL.et ?_); refine AL.nm ?_) | ((refine AL.pcall (g := 59) rfl kr rfl ((by exact hcp _ rfl)) ?_); refine AL.nm ?_) | ((refine AL.bx ?_); refine AL.nm ?_; refine AL.nM ?_) | refine AL.nil ?_) | ((with_reducible refine AW.on ?_); first | refine AW.seq ?_ | refine AW.skip ?_ | refine AW.exit ?_ | refine AW.ret ?_ | (refine AW.block (id := 0) ?_; refine AW.unroll 1 ?_) | (refine AW.block (id := 6) ?_; refine AW.unroll 1 ?_) | refine AW.region ?_ | (refine AW.conds rfl (fun hc => ?_) (fun hc => ?_) <;> (try replace hc := nc hc) <;> first | (exfalso; contradiction) | skip)) | with_reducible refine AR.s ?_ | ((with_reducible refine FinP.on ?_); (refine FinP.ret (.tmp wl (.tmp wl .nil)) ?_ rfl); (try simp only [pack, List.drop, List.take]); all_goals (rfl)))
theorem rCheckNet_g {m : Mem} {v w : Value} {l : List Pn} {ts : List T3} (e0 : m.at 0 = Ls.blX (flatP l)) (e1 : m.at 1 = Ls.blX (flatT ts)) (hv : SlV [Ls.blX (flatP l), Ls.blX (flatT ts)] 0 v (flatP l) l.length) (hw : SlV [Ls.blX (flatP l), Ls.blX (flatT ts)] 1 w (flatT ts) ts.length) (hl : l.length ≤ 1000000) (ht : (ts.length : Int) ≤ 9223372036854775807) :
    PCalls Tryz.prog 29 [.agg #[v, w]] m (.tuple #[.int .i64 (netI l ts), .int .i64 (netE l ts)]) := by
  have key : PCalls Tryz.prog 29 [.agg #[v, w]] [Ls.blX (flatP l), Ls.blX (flatT ts)] (.tuple #[.int .i64 (netI l ts), .int .i64 (netE l ts)]) := by
    by_cases h0 : cpB l ≠ 0
    · have a := rCheckNet_c v w l _ _ (ro_bl2 _ _) hv hl h0
      have e : netI l ts = 0 ∧ netE l ts = cpB l := by
        unfold netI netE
        rw [if_pos h0, if_pos h0]
        exact ⟨rfl, rfl⟩
      rw [e.1, e.2]
      exact a
    · have h0 : cpB l = 0 := Classical.not_not.1 h0
      by_cases hT : ts.length = 0
      · obtain rfl := List.eq_nil_of_length_eq_zero hT
        have e : netI l [] = 0 ∧ netE l [] = 14 := rn_14 h0 (by decide) (fun j h => absurd h (by simp)) (by rfl) (.inl rfl)
        rw [e.1, e.2]
        rcases hw with ⟨_, h1, _⟩ | ⟨_, rfl⟩ | ⟨_, rfl⟩
        · exact absurd h1 (by simp)
        · exact rCheckNet_14 none v l _ _ (ro_bl2 _ _) hv hl h0
        · exact rCheckNet_14 _ v l _ _ (ro_bl2 _ _) hv hl h0
      · have hT0 : 0 < ts.length := by omega
        have e2 : Ls.blX (flatT ts) = some ⟨flatT ts, false, 0⟩ := if_neg (fun h => by have := (flatT_nil ts).1 h; omega)
        rw [(hw.pos hT0).1]
        by_cases h8 : 80 < ts.length
        · have e : netI l ts = 0 ∧ netE l ts = 8 := by
            refine ⟨?_, ?_⟩
            · unfold netI
              rw [if_neg (fun h => h h0), if_pos h8]
            · unfold netE
              rw [if_neg (fun h => h h0), if_pos h8]
          rw [e.1, e.2]
          exact rCheckNet_8 v l ts INF _ _ (ro_bl2 _ _) hv hl h0 h8
        · by_cases hL : l.length = 0
          · obtain rfl := List.eq_nil_of_length_eq_zero hL
            have e := rn_6 (l := []) (ts := ts) (k := 0) h0 (by omega) hT0 (fun j h => absurd h (by omega)) (fun h => by
              unfold inR at h
              simp only [List.length_nil] at h
              omega)
            rw [e.1, e.2, e2]
            rcases hv with ⟨_, h1, _⟩ | ⟨_, rfl⟩ | ⟨_, rfl⟩
            · exact absurd h1 (by simp)
            · exact rCheckNet_6 none (.inl rfl) ts INF 0 hT0 (by omega)
            · exact rCheckNet_6 _ (.inr rfl) ts INF 0 hT0 (by omega)
          · have e1 : Ls.blX (flatP l) = some ⟨flatP l, false, 0⟩ := if_neg (fun h => by have := (flatP_nil l).1 h; omega)
            rw [(hv.pos (by omega)).1, e1, e2]
            exact rCheckNet_b l ts INF INF h0 hT0 (by omega)
  rcases hv with ⟨_, _, rfl, _⟩ | ⟨_, rfl⟩ | ⟨_, rfl⟩ <;> rcases hw with ⟨_, _, rfl, _⟩ | ⟨_, rfl⟩ | ⟨_, rfl⟩ <;> exact PCalls.two key (flatP_scal l) (flatT_scal ts) e0 e1 rfl rfl rfl rfl
end Go.Proofs.YtmohcmghbfhdlaaGreat
end
end
/- Chapter 6: the copy of a net in blocks, its edges, in a greater memory. -/
section
set_option linter.unusedSimpArgs false
set_option linter.unusedVariables false
section
namespace Go.Me
open Go.Ab Go.Proofs.YtmohcmghbfhdlaaGreat
theorem liB_le {l : List Pn} {ts : List T3} (h : liB l ts = true) : l.length ≤ 1000 ∧ ts.length ≤ 1000 := by
  unfold liB fwB fwT at h
  rw [Bool.and_eq_true, decide_eq_true_iff, decide_eq_true_iff] at h
  omega
end Go.Me
namespace Go.Proofs.YtmohcmghbfhdlaaGreat
open Go Go.RowKit Go.Ab Go.Me
set_option maxRecDepth 100000
theorem Copy_y {m : Mem} {i j : Nat} {A B : Blk} {l : List Pn} {ts : List T3} (hij : i ≠ j) (h0 : 0 < l.length) (h1 : 0 < ts.length) (hl : l.length ≤ 1000000) (ht : ts.length ≤ 1000000) (a1 : m.at i = some A) (a2 : A.cells = flatP l) (b1 : m.at j = some B) (b2 : B.cells = flatT ts) (a3 : A.obj = Ob.plain) (b3 : B.obj = Ob.plain) :
    ACalls Tryz.prog 15 [.agg #[.slice (some ⟨i, 0, none⟩) l.length INF, .slice (some ⟨j, 0, none⟩) ts.length INF]] m (.agg #[.slice (some ⟨m.length, 0, none⟩) l.length INF, .slice (some ⟨m.length + 1, 0, none⟩) ts.length INF]) (m ++ cpM l ts) := by
  have h := Copy_g hij (.blk A h0 rfl a1 a2 a3) (.blk B h1 rfl b1 b2 b3) hl ht
  unfold cpV at h
  rw [show cpC l.length = INF from if_neg (by omega), show cpC ts.length = INF from if_neg (by omega)] at h
  exact h
end Go.Proofs.YtmohcmghbfhdlaaGreat
end
end
/- Chapter 6 in plain Lean: nets: sums over directed edges; what is left is the border; a border goes round the hull a whole number of times. -/
section
set_option linter.unusedSimpArgs false
set_option linter.unusedVariables false
namespace Go.Me
def su {α : Type} (l : List α) (f : α → Int) : Int := (l.map f).sum
section
variable {α β : Type}
theorem su_nil (f : α → Int) : su [] f = 0 := rfl
theorem su_cons (a : α) (l : List α) (f : α → Int) : su (a :: l) f = f a + su l f := rfl
theorem su_app (l k : List α) (f : α → Int) : su (l ++ k) f = su l f + su k f := by
  induction l with
  | nil => rw [List.nil_append, su_nil]; omega
  | cons a l ih => rw [List.cons_append, su_cons, su_cons, ih]; omega
theorem su_add (l : List α) (f g : α → Int) : su l (fun a => f a + g a) = su l f + su l g := by
  induction l with
  | nil => rfl
  | cons a l ih => rw [su_cons, su_cons, su_cons, ih]; omega
theorem su_sub (l : List α) (f g : α → Int) : su l (fun a => f a - g a) = su l f - su l g := by
  induction l with
  | nil => rfl
  | cons a l ih => rw [su_cons, su_cons, su_cons, ih]; omega
theorem su_neg (l : List α) (f : α → Int) : su l (fun a => -f a) = -su l f := by
  induction l with
  | nil => rfl
  | cons a l ih => rw [su_cons, su_cons, ih]; omega
theorem su_mul (c : Int) (l : List α) (f : α → Int) : su l (fun a => c * f a) = c * su l f := by
  induction l with
  | nil => simp [su_nil]
  | cons a l ih => rw [su_cons, su_cons, ih, Int.mul_add]
theorem su_zero (l : List α) : su l (fun _ => 0) = 0 := by
  induction l with
  | nil => rfl
  | cons a l ih => rw [su_cons, ih]; rfl
theorem su_congr {l : List α} {f g : α → Int} (h : ∀ a ∈ l, f a = g a) : su l f = su l g := by
  unfold su
  rw [List.map_congr_left h]
theorem su_nn {l : List α} {f : α → Int} (h : ∀ a ∈ l, 0 ≤ f a) : 0 ≤ su l f := by
  induction l with
  | nil => exact Int.le_refl _
  | cons a l ih =>
    have h1 := h a (by simp)
    have h2 := ih fun x hx => h x (by simp [hx])
    rw [su_cons]
    omega
theorem su_le {l : List α} {f g : α → Int} (h : ∀ a ∈ l, f a ≤ g a) : su l f ≤ su l g := by
  have := su_nn (l := l) (f := fun a => g a - f a) fun a ha => by have := h a ha; omega
  rw [su_sub] at this
  omega
theorem su_mem {l : List α} {f : α → Int} (h : ∀ a ∈ l, 0 ≤ f a) {a : α} (ha : a ∈ l) : f a ≤ su l f := by
  induction l with
  | nil => simp at ha
  | cons b l ih =>
    have h1 := h b (by simp)
    have h2 := su_nn (l := l) (f := f) fun x hx => h x (by simp [hx])
    rw [su_cons]
    rcases List.mem_cons.1 ha with rfl | ha
    · omega
    · have := ih (fun x hx => h x (by simp [hx])) ha
      omega
theorem su_perm {l k : List α} (h : l.Perm k) (f : α → Int) : su l f = su k f := by
  induction h with
  | nil => rfl
  | cons a _ ih => rw [su_cons, su_cons, ih]
  | swap a b l => rw [su_cons, su_cons, su_cons, su_cons]; omega
  | trans _ _ h1 h2 => rw [h1, h2]
theorem su_map (l : List α) (g : α → β) (f : β → Int) : su (l.map g) f = su l (fun a => f (g a)) := by
  unfold su
  rw [List.map_map]
  rfl
theorem su_flat (l : List α) (g : α → List β) (f : β → Int) : su (l.flatMap g) f = su l fun a => su (g a) f := by
  induction l with
  | nil => rfl
  | cons a l ih => rw [List.flatMap_cons, su_app, su_cons, ih]
theorem su_filter (l : List α) (p : α → Bool) (f : α → Int) : su l f = su (l.filter p) f + su (l.filter fun a => !p a) f := by
  induction l with
  | nil => rfl
  | cons a l ih =>
    rw [su_cons, ih]
    cases hp : p a
    · rw [List.filter_cons_of_neg (by simp [hp]), List.filter_cons_of_pos (by simp [hp]), su_cons]; omega
    · rw [List.filter_cons_of_pos (by simp [hp]), List.filter_cons_of_neg (by simp [hp]), su_cons]; omega
theorem su_comm (l : List α) (k : List β) (f : α → β → Int) : su l (fun a => su k fun b => f a b) = su k fun b => su l fun a => f a b := by
  induction l with
  | nil => rw [su_nil]; exact (su_zero k).symm
  | cons a l ih => rw [su_cons, ih, ← su_add]; rfl
end
abbrev Ed := Nat × Nat
def sw (e : Ed) : Ed := (e.2, e.1)
theorem sw_sw (e : Ed) : sw (sw e) = e := rfl
def Anti (g : Ed → Int) : Prop := ∀ e, g (sw e) = -g e
theorem nodup_map_sw {l : List Ed} (h : l.Nodup) : (l.map sw).Nodup := by
  refine List.Pairwise.map _ (fun a b hab hs => hab ?_) h
  have := congrArg sw hs
  exact this
theorem su_anti {l : List Ed} (hn : l.Nodup) (hs : ∀ e ∈ l, sw e ∈ l) {g : Ed → Int} (hg : Anti g) : su l g = 0 := by
  have hp : (l.map sw).Perm l := (List.perm_ext_iff_of_nodup (nodup_map_sw hn) hn).2 fun e => by
    constructor
    · intro h
      obtain ⟨x, hx, rfl⟩ := List.mem_map.1 h
      exact hs x hx
    · intro h
      exact List.mem_map.2 ⟨sw e, hs e h, sw_sw e⟩
  have h1 := su_perm hp g
  rw [su_map, show (fun a => g (sw a)) = fun a => -g a from funext hg, su_neg] at h1
  omega
def bd (l : List Ed) : List Ed := l.filter fun e => !l.contains (sw e)
theorem bd_mem {l : List Ed} {e : Ed} : e ∈ bd l ↔ e ∈ l ∧ sw e ∉ l := by
  unfold bd
  simp
theorem su_bd {l : List Ed} (hn : l.Nodup) {g : Ed → Int} (hg : Anti g) : su l g = su (bd l) g := by
  rw [su_filter l (fun e => !l.contains (sw e)) g]
  have : su (l.filter fun e => !(!l.contains (sw e))) g = 0 := by
    refine su_anti (hn.filter _) (fun e he => ?_) hg
    simp only [Bool.not_not, List.mem_filter, List.contains_iff_mem] at he ⊢
    exact ⟨he.2, by rw [sw_sw]; exact he.1⟩
  rw [this]
  unfold bd
  omega
abbrev Tri := Nat × Nat × Nat
def ed3 (t : Tri) : List Ed := [(t.1, t.2.1), (t.2.1, t.2.2), (t.2.2, t.1)]
def edT (ts : List Tri) : List Ed := ts.flatMap ed3
theorem su_ed3 (t : Tri) (f : Ed → Int) : su (ed3 t) f = f (t.1, t.2.1) + (f (t.2.1, t.2.2) + f (t.2.2, t.1)) := by
  show f (t.1, t.2.1) + (f (t.2.1, t.2.2) + (f (t.2.2, t.1) + 0)) = _
  omega
theorem su_grad (ts : List Tri) (f : Nat → Int) : su (edT ts) (fun e => f e.1 - f e.2) = 0 := by
  unfold edT
  rw [su_flat]
  rw [su_congr (g := fun _ => 0) fun t _ => by rw [su_ed3]; show f t.1 - f t.2.1 + (f t.2.1 - f t.2.2 + (f t.2.2 - f t.1)) = 0; omega]
  exact su_zero ts
def Bal (l : List Ed) : Prop := ∀ f : Nat → Int, su l (fun e => f e.1 - f e.2) = 0
theorem bal_bd {ts : List Tri} (hn : (edT ts).Nodup) : Bal (bd (edT ts)) := fun f => by
  rw [← su_bd hn fun e => by show f e.2 - f e.1 = -(f e.1 - f e.2); omega]
  exact su_grad ts f
end Go.Me
end
/- Chapter 6 in plain Lean: a balanced family of edges that all have the points at their left crosses each upright line equally often. Points have different x here. -/
section
set_option linter.unusedSimpArgs false
set_option linter.unusedVariables false
namespace Go.Me
theorem wedge_id {a b a' b' v q : Pn} (hv1 : v = a ∨ v = b) (hv2 : v = a' ∨ v = b') :
    (a.x - b.x) * cr a' b' q + (b'.x - a'.x) * cr a b q = (q.x - v.x) * ((b'.x - a'.x) * (a.y - b.y) - (b'.y - a'.y) * (a.x - b.x)) := by
  rcases hv1 with rfl | rfl <;> rcases hv2 with h | h <;> subst h <;> unfold cr <;> grind
theorem wedge {a b a' b' v m M q : Pn} (h1 : b.x < a.x) (h2 : a'.x < b'.x) (hv1 : v = a ∨ v = b) (hv2 : v = a' ∨ v = b') (hm : m.x < v.x) (hM : v.x < M.x)
    (s1 : 0 ≤ cr a b m) (s2 : 0 ≤ cr a b M) (s3 : 0 ≤ cr a b q) (s4 : 0 ≤ cr a' b' m) (s5 : 0 ≤ cr a' b' M) (s6 : 0 ≤ cr a' b' q) : cr a b q = 0 := by
  have e1 := wedge_id (q := m) hv1 hv2
  have e2 := wedge_id (q := M) hv1 hv2
  have e3 := wedge_id (q := q) hv1 hv2
  generalize (b'.x - a'.x) * (a.y - b.y) - (b'.y - a'.y) * (a.x - b.x) = K at *
  have p1 := Int.mul_nonneg (show 0 ≤ a.x - b.x by omega) s4
  have p2 := Int.mul_nonneg (show 0 ≤ b'.x - a'.x by omega) s1
  have p3 := Int.mul_nonneg (show 0 ≤ a.x - b.x by omega) s5
  have p4 := Int.mul_nonneg (show 0 ≤ b'.x - a'.x by omega) s2
  have p5 := Int.mul_nonneg (show 0 ≤ a.x - b.x by omega) s6
  have p6 := Int.mul_nonneg (show 0 ≤ b'.x - a'.x by omega) s3
  have k1 : K ≤ 0 := by
    apply Classical.byContradiction
    intro hk
    have := Int.mul_neg_of_neg_of_pos (show m.x - v.x < 0 by omega) (show 0 < K by omega)
    omega
  have k2 : 0 ≤ K := by
    apply Classical.byContradiction
    intro hk
    have := Int.mul_neg_of_pos_of_neg (show 0 < M.x - v.x by omega) (show K < 0 by omega)
    omega
  have k0 : K = 0 := by omega
  rw [k0, Int.mul_zero] at e3
  have z : (b'.x - a'.x) * cr a b q = 0 := by omega
  rcases Int.mul_eq_zero.1 z with h | h
  · omega
  · exact h
section
variable (P : Nat → Pn)
def sp (c : Int) (e : Ed) : Int := if (P e.2).x ≤ c ∧ c < (P e.1).x then 1 else 0
def U (S : List Ed) (c : Int) : Int := su S (sp P c)
def Lo (S : List Ed) (c : Int) : Int := su S fun e => sp P c (sw e)
structure Sup (n : Nat) (e : Ed) : Prop where
  l1 : e.1 < n
  l2 : e.2 < n
  ne : e.1 ≠ e.2
  at_ : ∀ q, q < n → 0 ≤ cr (P e.1) (P e.2) (P q)
structure Gen (n : Nat) : Prop where
  inj : ∀ i j, i < n → j < n → (P i).x = (P j).x → i = j
  nf : ∃ i j k, i < n ∧ j < n ∧ k < n ∧ cr (P i) (P j) (P k) ≠ 0
end
section
variable {P : Nat → Pn} {n : Nat} {S : List Ed}
theorem U_Lo (hb : Bal S) (c : Int) : U P S c = Lo P S c := by
  have h := hb fun v => if c < (P v).x then 1 else 0
  have e : su S (fun e => (if c < (P e.1).x then (1 : Int) else 0) - if c < (P e.2).x then (1 : Int) else 0) = U P S c - Lo P S c := by
    unfold U Lo
    rw [← su_sub]
    refine su_congr fun e _ => ?_
    show _ = (if (P e.2).x ≤ c ∧ c < (P e.1).x then (1 : Int) else 0) - if (P e.1).x ≤ c ∧ c < (P e.2).x then 1 else 0
    by_cases h1 : c < (P e.1).x <;> by_cases h2 : c < (P e.2).x
    · rw [if_pos h1, if_pos h2, if_neg (by omega), if_neg (by omega)]; rfl
    · rw [if_pos h1, if_neg h2, if_pos (by omega), if_neg (by omega)]
    · rw [if_neg h1, if_pos h2, if_neg (by omega), if_pos (by omega)]
    · rw [if_neg h1, if_neg h2, if_neg (by omega), if_neg (by omega)]
  rw [e] at h
  omega
theorem U_step (hg : Gen P n) (hb : Bal S) (hs : ∀ e ∈ S, Sup P n e) {c : Int} {m M : Nat} (hm : m < n) (hM : M < n) (h1 : (P m).x ≤ c) (h2 : c + 1 < (P M).x) : U P S c = U P S (c + 1) := by
  let f : Nat → Int := fun v => if (P v).x = c + 1 then 1 else 0
  have hb' := hb f
  have e : U P S c - U P S (c + 1) = su S fun e => if (P e.2).x < (P e.1).x then f e.1 - f e.2 else 0 := by
    unfold U
    rw [← su_sub]
    refine su_congr fun e _ => ?_
    show (if (P e.2).x ≤ c ∧ c < (P e.1).x then (1 : Int) else 0) - (if (P e.2).x ≤ c + 1 ∧ c + 1 < (P e.1).x then 1 else 0) = if (P e.2).x < (P e.1).x then (if (P e.1).x = c + 1 then 1 else 0) - (if (P e.2).x = c + 1 then 1 else 0) else 0
    repeat' split
    all_goals omega
  by_cases hlo : ∃ e ∈ S, (P e.1).x < (P e.2).x ∧ ((P e.1).x = c + 1 ∨ (P e.2).x = c + 1)
  · have z : su S (fun e => if (P e.2).x < (P e.1).x then f e.1 - f e.2 else 0) = 0 := by
      rw [su_congr (g := fun _ => 0) fun e he => ?_]
      · exact su_zero S
      · split
        · rename_i hu
          by_cases hv : (P e.1).x = c + 1 ∨ (P e.2).x = c + 1
          · exfalso
            obtain ⟨e', he', hl, hv'⟩ := hlo
            have s := hs e he
            have s' := hs e' he'
            obtain ⟨i, j, k, hi, hj, hk, hne⟩ := hg.nf
            have vs : ∃ v, v < n ∧ (P v).x = c + 1 ∧ (v = e.1 ∨ v = e.2) := by
              rcases hv with h | h
              · exact ⟨e.1, s.l1, h, .inl rfl⟩
              · exact ⟨e.2, s.l2, h, .inr rfl⟩
            obtain ⟨v, hvn, hvx, hv1⟩ := vs
            have hv2 : v = e'.1 ∨ v = e'.2 := by
              rcases hv' with h | h
              · exact .inl (hg.inj _ _ hvn s'.l1 (by omega))
              · exact .inr (hg.inj _ _ hvn s'.l2 (by omega))
            have z : ∀ q, q < n → cr (P e.1) (P e.2) (P q) = 0 := fun q hq =>
              wedge (v := P v) (m := P m) (M := P M) hu hl (hv1.imp (congrArg P) (congrArg P)) (hv2.imp (congrArg P) (congrArg P)) (by omega) (by omega) (s.at_ m hm) (s.at_ M hM) (s.at_ q hq) (s'.at_ m hm) (s'.at_ M hM) (s'.at_ q hq)
            refine hne (flat_of (a := P e.1) (b := P e.2) (fun h => ?_) (z i hi) (z j hj) (z k hk))
            rw [h] at hu
            omega
          · show (if (P e.1).x = c + 1 then (1 : Int) else 0) - (if (P e.2).x = c + 1 then 1 else 0) = 0
            rw [if_neg fun h => hv (.inl h), if_neg fun h => hv (.inr h)]
            rfl
        · rfl
    omega
  · have z : su S (fun e => if (P e.2).x < (P e.1).x then f e.1 - f e.2 else 0) = su S fun e => f e.1 - f e.2 := by
      refine su_congr fun e he => ?_
      split
      · rfl
      · rename_i hu
        have s := hs e he
        have hx : (P e.1).x ≠ (P e.2).x := fun h => s.ne (hg.inj _ _ s.l1 s.l2 h)
        have hv : ¬ ((P e.1).x = c + 1 ∨ (P e.2).x = c + 1) := fun h => hlo ⟨e, he, by omega, h⟩
        show 0 = (if (P e.1).x = c + 1 then (1 : Int) else 0) - (if (P e.2).x = c + 1 then 1 else 0)
        rw [if_neg fun h => hv (.inl h), if_neg fun h => hv (.inr h)]
        rfl
    omega
theorem U_const (hg : Gen P n) (hb : Bal S) (hs : ∀ e ∈ S, Sup P n e) {m M : Nat} (hm : m < n) (hM : M < n) : ∀ (k : Nat), (P m).x + k < (P M).x → U P S ((P m).x + k) = U P S (P m).x
  | 0, _ => by simp
  | k + 1, h => by
    have ih := U_const hg hb hs hm hM k (by omega)
    have := U_step (c := (P m).x + k) hg hb hs hm hM (by omega) (by omega)
    rw [← ih, this]
    congr 1
    omega
theorem U_eq (hg : Gen P n) (hb : Bal S) (hs : ∀ e ∈ S, Sup P n e) {m M : Nat} (hm : m < n) (hM : M < n) {c : Int} (h1 : (P m).x ≤ c) (h2 : c < (P M).x) : U P S c = U P S (P m).x := by
  obtain ⟨k, rfl⟩ : ∃ k : Nat, c = (P m).x + k := ⟨(c - (P m).x).toNat, by omega⟩
  exact U_const hg hb hs hm hM k h2
end
end Go.Me
end
/- Chapter 6 in plain Lean: two such families: what they enclose goes as how often they go round. -/
section
set_option linter.unusedSimpArgs false
set_option linter.unusedVariables false
namespace Go.Me
def gN (a b : Pn) (c : Int) : Int := a.y * (2 * (c - b.x) + 1) + b.y * (2 * (a.x - c) - 1)
theorem line_eq {a b a' b' : Pn} (c : Int) (h1 : cr a b a' = 0) (h2 : cr a b b' = 0) : gN a b c * (a'.x - b'.x) = gN a' b' c * (a.x - b.x) := by
  unfold gN cr at *
  grind
theorem line_of {a b a' b' : Pn} {c : Int} (h1 : b.x ≤ c) (h2 : c < a.x) (h1' : b'.x ≤ c) (h2' : c < a'.x) (s1 : 0 ≤ cr a b a') (s2 : 0 ≤ cr a b b') (s3 : 0 ≤ cr a' b' a) (s4 : 0 ≤ cr a' b' b) : cr a b a' = 0 ∧ cr a b b' = 0 := by
  -- the difference of both lines' heights, times both lengths
  let al : Int := (a.x - b.x) * (a'.y - b'.y) - (a'.x - b'.x) * (a.y - b.y)
  let be : Int := (a.x - b.x) * (b'.y * a'.x - a'.y * b'.x) - (a'.x - b'.x) * (b.y * a.x - a.y * b.x)
  have e1 : al * a.x + be = (a.x - b.x) * cr a' b' a := by simp only [al, be]; unfold cr; grind
  have e2 : al * b.x + be = (a.x - b.x) * cr a' b' b := by simp only [al, be]; unfold cr; grind
  have e3 : al * a'.x + be = -((a'.x - b'.x) * cr a b a') := by simp only [al, be]; unfold cr; grind
  have e4 : al * b'.x + be = -((a'.x - b'.x) * cr a b b') := by simp only [al, be]; unfold cr; grind
  have p1 := Int.mul_nonneg (show 0 ≤ a.x - b.x by omega) s3
  have p2 := Int.mul_nonneg (show 0 ≤ a.x - b.x by omega) s4
  have p3 := Int.mul_nonneg (show 0 ≤ a'.x - b'.x by omega) s1
  have p4 := Int.mul_nonneg (show 0 ≤ a'.x - b'.x by omega) s2
  generalize al = al at *
  generalize be = be at *
  have k1 : 0 ≤ al := by
    apply Classical.byContradiction
    intro hk
    have := Int.mul_neg_of_neg_of_pos (show al < 0 by omega) (show 0 < a.x - b'.x by omega)
    rw [Int.mul_sub] at this
    omega
  have k2 : al ≤ 0 := by
    apply Classical.byContradiction
    intro hk
    have := Int.mul_neg_of_pos_of_neg (show 0 < al by omega) (show b.x - a'.x < 0 by omega)
    rw [Int.mul_sub] at this
    omega
  have k0 : al = 0 := by omega
  subst k0
  rw [Int.zero_mul] at e1 e2 e3 e4
  have z1 : (a'.x - b'.x) * cr a b a' = 0 := by omega
  have z2 : (a'.x - b'.x) * cr a b b' = 0 := by omega
  exact ⟨(Int.mul_eq_zero.1 z1).resolve_left (by omega), (Int.mul_eq_zero.1 z2).resolve_left (by omega)⟩
def cols (m : Int) (N : Nat) : List Int := (List.range N).map fun j => m + (j : Nat)
theorem cols_mem {m c : Int} {N : Nat} (h : c ∈ cols m N) : m ≤ c ∧ c < m + N := by
  obtain ⟨j, hj, rfl⟩ := List.mem_map.1 h
  have := List.mem_range.1 hj
  omega
theorem su_tele (m : Int) (h : Int → Int) : ∀ N : Nat, su (cols m N) (fun c => h (c + 1) - h c) = h (m + N) - h m
  | 0 => by simp [cols, su_nil]
  | N + 1 => by
    have e : cols m (N + 1) = cols m N ++ [m + (N : Nat)] := by
      unfold cols
      rw [List.range_succ, List.map_append]
      rfl
    rw [e, su_app, su_tele m h N, su_cons, su_nil]
    rw [show m + ((N + 1 : Nat) : Int) = m + (N : Int) + 1 by omega]
    omega
section
variable (P : Nat → Pn)
def gE (c : Int) (e : Ed) : Int := gN (P e.1) (P e.2) c
def trz (e : Ed) : Int := ((P e.1).x - (P e.2).x) * ((P e.1).y + (P e.2).y)
def tU (S : List Ed) : Int := su S fun e => if (P e.2).x < (P e.1).x then trz P e else 0
end
section
variable {P : Nat → Pn} {n : Nat}
theorem col_sum {m : Int} {N : Nat} {e : Ed} (h1 : m ≤ (P e.2).x) (h2 : (P e.1).x ≤ m + N) (h3 : (P e.2).x < (P e.1).x) : su (cols m N) (fun c => sp P c e * gE P c e) = ((P e.1).x - (P e.2).x) * trz P e := by
  let F : Int → Int := fun c => (P e.1).y * ((c - (P e.2).x) * (c - (P e.2).x)) - (P e.2).y * (((P e.1).x - c) * ((P e.1).x - c))
  let h : Int → Int := fun c => F (max (P e.2).x (min (P e.1).x c))
  have t := su_tele m h N
  have e0 : h m = F (P e.2).x := by simp only [h]; congr 1; omega
  have e1 : h (m + N) = F (P e.1).x := by simp only [h]; congr 1; omega
  rw [e0, e1] at t
  have ef : F (P e.1).x - F (P e.2).x = ((P e.1).x - (P e.2).x) * trz P e := by simp only [F]; unfold trz; grind
  rw [ef] at t
  rw [← t]
  refine su_congr fun c _ => ?_
  simp only [h]
  unfold sp
  by_cases hc : (P e.2).x ≤ c ∧ c < (P e.1).x
  · rw [if_pos hc, show max (P e.2).x (min (P e.1).x (c + 1)) = c + 1 by omega, show max (P e.2).x (min (P e.1).x c) = c by omega]
    simp only [F]
    unfold gE gN
    grind
  · rw [if_neg hc]
    rcases Int.lt_or_le c (P e.2).x with hl | hl
    · rw [show max (P e.2).x (min (P e.1).x (c + 1)) = (P e.2).x by omega, show max (P e.2).x (min (P e.1).x c) = (P e.2).x by omega]; omega
    · rw [show max (P e.2).x (min (P e.1).x (c + 1)) = (P e.1).x by omega, show max (P e.2).x (min (P e.1).x c) = (P e.1).x by omega]; omega
theorem common (P : Nat → Pn) : ∀ L : List Ed, ∃ (D : Int) (q : Ed → Int), 0 < D ∧ ∀ e ∈ L, (P e.2).x < (P e.1).x → q e * ((P e.1).x - (P e.2).x) = D := by
  intro L
  suffices h : ∃ D : Int, 0 < D ∧ ∀ e ∈ L, (P e.2).x < (P e.1).x → ∃ q, q * ((P e.1).x - (P e.2).x) = D by
    obtain ⟨D, h0, h1⟩ := h
    refine ⟨D, fun e => if h : e ∈ L ∧ (P e.2).x < (P e.1).x then Classical.choose (h1 e h.1 h.2) else 0, h0, fun e he hu => ?_⟩
    simp only [dif_pos (And.intro he hu)]
    exact Classical.choose_spec (h1 e he hu)
  induction L with
  | nil => exact ⟨1, by decide, by simp⟩
  | cons a L ih =>
    obtain ⟨D, h0, h1⟩ := ih
    by_cases hu : (P a.2).x < (P a.1).x
    · refine ⟨D * ((P a.1).x - (P a.2).x), Int.mul_pos h0 (by omega), fun e he hue => ?_⟩
      rcases List.mem_cons.1 he with rfl | he
      · exact ⟨D, rfl⟩
      · obtain ⟨q, hq⟩ := h1 e he hue
        exact ⟨q * ((P a.1).x - (P a.2).x), by rw [← hq]; grind⟩
    · refine ⟨D, h0, fun e he hue => ?_⟩
      rcases List.mem_cons.1 he with rfl | he
      · exact absurd hue hu
      · exact h1 e he hue
theorem sp_01 (c : Int) (e : Ed) : sp P c e = 0 ∨ (sp P c e = 1 ∧ (P e.2).x ≤ c ∧ c < (P e.1).x) := by
  unfold sp
  split
  · rename_i h; exact .inr ⟨rfl, h⟩
  · exact .inl rfl
theorem area_up {S H : List Ed} {m : Nat} {N : Nat} (hS : ∀ e ∈ S, Sup P n e) (hH : ∀ e ∈ H, Sup P n e) (hm : ∀ v, v < n → (P m).x ≤ (P v).x) (hM : ∀ v, v < n → (P v).x ≤ (P m).x + N) {wS wH : Int}
    (kS : ∀ c ∈ cols (P m).x N, U P S c = wS) (kH : ∀ c ∈ cols (P m).x N, U P H c = wH) : wH * tU P S = wS * tU P H := by
  obtain ⟨D, q, hD, hq⟩ := common P (S ++ H)
  -- one family, counted by columns
  have one : ∀ (S H : List Ed) (wH : Int), (∀ e ∈ S, Sup P n e) → (∀ e ∈ S, (P e.2).x < (P e.1).x → q e * ((P e.1).x - (P e.2).x) = D) → (∀ c ∈ cols (P m).x N, U P H c = wH) →
      D * (wH * tU P S) = su S fun e => su H fun e' => su (cols (P m).x N) fun c => sp P c e * sp P c e' * (gE P c e * q e) := by
    intro S H wH hS hq kH
    unfold tU
    rw [← su_mul, ← su_mul]
    refine su_congr fun e he => ?_
    rw [su_comm]
    have s := hS e he
    have e1 : su (cols (P m).x N) (fun c => su H fun e' => sp P c e * sp P c e' * (gE P c e * q e)) = su (cols (P m).x N) fun c => wH * q e * (sp P c e * gE P c e) := by
      refine su_congr fun c hc => ?_
      rw [su_congr (g := fun e' => sp P c e * (gE P c e * q e) * sp P c e') fun e' _ => by grind, su_mul]
      have := kH c hc
      unfold U at this
      rw [show (su H fun e' => sp P c e') = wH from this]
      grind
    rw [e1, su_mul]
    by_cases hu : (P e.2).x < (P e.1).x
    · rw [if_pos hu, col_sum (hm _ s.l2) (hM _ s.l1) hu, ← hq e he hu]
      grind
    · rw [if_neg hu, su_congr (g := fun _ => 0) fun c _ => ?_, su_zero]
      · simp
      · rcases sp_01 (P := P) c e with h | ⟨_, h1, h2⟩
        · rw [h, Int.zero_mul]
        · omega
  have h1 := one S H wH hS (fun e he => hq e (by simp [he])) kH
  have h2 := one H S wS hH (fun e he => hq e (by simp [he])) kS
  rw [su_comm] at h2
  have h3 : (su S fun e => su H fun e' => su (cols (P m).x N) fun c => sp P c e * sp P c e' * (gE P c e * q e)) = su S fun e => su H fun e' => su (cols (P m).x N) fun c => sp P c e' * sp P c e * (gE P c e' * q e') := by
    refine su_congr fun e he => su_congr fun e' he' => su_congr fun c _ => ?_
    rcases sp_01 (P := P) c e with h | ⟨h, q1, q2⟩
    · rw [h]; grind
    · rcases sp_01 (P := P) c e' with h' | ⟨h', q1', q2'⟩
      · rw [h']; grind
      · have s := hS e he
        have s' := hH e' he'
        obtain ⟨z1, z2⟩ := line_of q1 q2 q1' q2' (s.at_ _ s'.l1) (s.at_ _ s'.l2) (s'.at_ _ s.l1) (s'.at_ _ s.l2)
        have le := line_eq c z1 z2
        have d1 := hq e (by simp [he]) (by omega)
        have d2 := hq e' (by simp [he']) (by omega)
        have hk : gE P c e * q e = gE P c e' * q e' := by
          unfold gE
          have hn : ((P e.1).x - (P e.2).x) * ((P e'.1).x - (P e'.2).x) ≠ 0 := Int.mul_ne_zero (by omega) (by omega)
          refine Int.eq_of_mul_eq_mul_right hn ?_
          grind
        rw [h, h', hk]
  have h4 : D * (wH * tU P S) = D * (wS * tU P H) := (h1.trans h3).trans h2.symm
  exact Int.eq_of_mul_eq_mul_left (by omega) h4
end
end Go.Me
end
/- Chapter 6 in plain Lean: what a balanced border encloses, in all. -/
section
set_option linter.unusedSimpArgs false
set_option linter.unusedVariables false
namespace Go.Me
def mr (P : Nat → Pn) : Nat → Pn := fun i => ⟨(P i).x, -(P i).y⟩
theorem cr_mr (P : Nat → Pn) (i j k : Nat) : cr (mr P j) (mr P i) (mr P k) = cr (P i) (P j) (P k) := by unfold cr mr; grind
def ar (P : Nat → Pn) (S : List Ed) : Int := su S fun e => (P e.1).x * (P e.2).y - (P e.1).y * (P e.2).x
section
variable {P : Nat → Pn} {n : Nat} {S : List Ed}
theorem sup_mr {e : Ed} (h : Sup P n e) : Sup (mr P) n (sw e) := ⟨h.l2, h.l1, fun x => h.ne x.symm, fun q hq => by
  show 0 ≤ cr (mr P e.2) (mr P e.1) (mr P q)
  rw [cr_mr]
  exact h.at_ q hq⟩
theorem U_mr (c : Int) : U (mr P) (S.map sw) c = Lo P S c := by
  unfold U Lo
  rw [su_map]
  rfl
theorem ar_tU (hg : Gen P n) (hb : Bal S) (hs : ∀ e ∈ S, Sup P n e) : ar P S = tU P S + tU (mr P) (S.map sw) := by
  have h1 : su S (trz P) = ar P S := by
    have h := hb fun v => (P v).x * (P v).y
    have e : su S (trz P) = su S (fun e => (P e.1).x * (P e.2).y - (P e.1).y * (P e.2).x) + su S fun e => (P e.1).x * (P e.1).y - (P e.2).x * (P e.2).y := by
      rw [← su_add]
      refine su_congr fun e _ => ?_
      unfold trz
      grind
    rw [e]
    unfold ar
    omega
  rw [← h1]
  unfold tU
  rw [su_map, ← su_add]
  refine su_congr fun e he => ?_
  have s := hs e he
  have hx : (P e.1).x ≠ (P e.2).x := fun h => s.ne (hg.inj _ _ s.l1 s.l2 h)
  show _ = (if (P e.2).x < (P e.1).x then trz P e else 0) + if (P e.1).x < (P e.2).x then trz (mr P) (sw e) else 0
  rcases Int.lt_or_le (P e.2).x (P e.1).x with h | h
  · rw [if_pos h, if_neg (by omega)]; omega
  · rw [if_neg (by omega), if_pos (by omega)]
    show trz P e = 0 + ((P e.2).x - (P e.1).x) * (-(P e.2).y + -(P e.1).y)
    unfold trz
    grind
theorem area_w {H : List Ed} (hg : Gen P n) (bS : Bal S) (bH : Bal H) (hS : ∀ e ∈ S, Sup P n e) (hH : ∀ e ∈ H, Sup P n e) {m M : Nat} (hmn : m < n) (hMn : M < n) (hm : ∀ v, v < n → (P m).x ≤ (P v).x) (hM : ∀ v, v < n → (P v).x ≤ (P M).x) :
    U P H (P m).x * ar P S = U P S (P m).x * ar P H := by
  obtain ⟨N, hN⟩ : ∃ N : Nat, (P M).x = (P m).x + N := ⟨((P M).x - (P m).x).toNat, by have := hm M hMn; omega⟩
  have hM' : ∀ v, v < n → (P v).x ≤ (P m).x + N := fun v hv => by have := hM v hv; omega
  have k : ∀ S : List Ed, Bal S → (∀ e ∈ S, Sup P n e) → ∀ c ∈ cols (P m).x N, U P S c = U P S (P m).x := fun S b h c hc => by
    obtain ⟨h1, h2⟩ := cols_mem hc
    exact U_eq hg b h hmn hMn h1 (by omega)
  have up := area_up hS hH hm hM' (k S bS hS) (k H bH hH)
  have sm : ∀ S : List Ed, (∀ e ∈ S, Sup P n e) → ∀ e ∈ S.map sw, Sup (mr P) n e := fun S h e he => by
    obtain ⟨x, hx, rfl⟩ := List.mem_map.1 he
    exact sup_mr (h x hx)
  have k' : ∀ S : List Ed, Bal S → (∀ e ∈ S, Sup P n e) → ∀ c ∈ cols (mr P m).x N, U (mr P) (S.map sw) c = U P S (P m).x := fun S b h c hc => by
    rw [U_mr, ← U_Lo b]
    exact k S b h c hc
  have lo := area_up (P := mr P) (sm S hS) (sm H hH) hm hM' (k' S bS hS) (k' H bH hH)
  rw [ar_tU hg bS hS, ar_tU hg bH hH, Int.mul_add, Int.mul_add, up, lo]
end
end Go.Me
end
