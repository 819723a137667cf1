/- MeshComponents: the components of points are as specified, or the errors; with all edges kept there is one. -/
import Derived.Test.YtmohcmghbfhdlaaGreatQd
import Derived.Test.YtmohcmghbfhdlaaGreatRows
import Derived.Test.YtmohcmghbfhdlaaGreatQk
import Derived.Test.YtmohcmghbfhdlaaGreatRe
import Derived.Test.YtmohcmghbfhdlaaGreatRb
import Derived.Test.YtmohcmghbfhdlaaGreatQt
import Derived.Test.YtmohcmghbfhdlaaGreatRf
import Derived.Test.YtmohcmghbfhdlaaGreatRa
set_option linter.unusedSimpArgs false
set_option linter.unusedVariables false
section
namespace Go.Proofs.YtmohcmghbfhdlaaGreat
open Go Go.RowKit Go.Ab Go.Me
set_option maxRecDepth 100000
set_option maxHeartbeats 4000000
attribute [local irreducible] OQ OW AL AW AF SW
theorem MeshComponents_f (v w u : Value) (l : List Pn) (ts : List T3) (o1 o2 o3 : Option Blk) (hr : Mem.ro [o1, o2, o3]) (hv : SlV [o1, o2] 0 v (flatP l) l.length) (hw : SlV [o1, o2] 1 w (flatT ts) ts.length) (hl : (l.length : Int) ≤ 9223372036854775807) (ht : (ts.length : Int) ≤ 9223372036854775807) (he : liB l ts = false) :
    PCalls Tryz.prog 6 [.agg #[v, w], u] [o1, o2, o3] (.bool true) := by
  have hLi := fun (m : Mem) (e0 : m.at 0 = Mem.at [o1, o2] 0) (e1 : m.at 1 = Mem.at [o1, o2] 1) => Light_g (m := m) (hv.of e0) (hw.of e1) hl ht
  rw [he] at hLi
  refine PCalls.en 94 Tryz.func6 rfl (hr) rfl (fun E => ?_)
  repeat' (first | with_reducible (first | refine Then.n ?_ | refine Then.r ?_) | ((with_reducible refine AL.on ?_); first | (refine AL.gd rfl ?_; (refine AL.gs0 rfl rfl (fun hc => ?_) (fun hc => ?_) <;> (try replace hc := nc hc) <;> first | (exfalso; contradiction) | (refine AL.nm ?_))) | ((first | ((with_reducible refine AL.k_move ?_); (refine AL.q rfl (OQ.move wl) ?_)) | ((with_reducible refine AL.k_call ?_); refine AL.q rfl (OQ.lenS (xt := 54) (r := (none, 1, false)) rfl kr) ?_) | ((with_reducible refine AL.k_assign ?_); (refine AL.q rfl (OQ.assign wl) ?_)) | ((with_reducible refine AL.k_binOp ?_); refine AL.q rfl (OQ.gtr rfl rfl) ?_) | ((with_reducible refine AL.k_load ?_); refine AL.q rfl (OQ.loadN (ty := 25) (n := 2) rfl kr kr rfl) ?_) | ((with_reducible refine AL.k_pick ?_); first | (refine AL.q rfl (OQ.pickT rfl (by with_reducible rfl) wl) ?_) | (refine AL.q rfl (OQ.pickF rfl (by with_reducible rfl) wl) ?_)) | ((with_reducible refine AL.k_unOp ?_); refine AL.q rfl (OQ.not rfl) ?_)); (refine AL.nm ?_)) | ((first | refine AL.pcall (g := 12) rfl kr rfl ((by exact awake_q _)) ?_ | refine AL.pcall (g := 13) rfl kr rfl ((by exact hLi _ rfl rfl)) ?_); (refine AL.nm ?_)) | ((((with_reducible refine AL.k_box ?_); (refine AL.w rfl (OW.box wl (by intro r h; cases h)) ?_))); (refine AL.nm ?_); (refine AL.nM ?_)) | refine AL.nil ?_) | ((with_reducible refine AW.on ?_); first | refine AW.seq ?_ | refine AW.skip ?_ | refine AW.ret ?_ | refine AW.region ?_ | (refine AW.conds rfl (fun hc => ?_) (fun hc => ?_) <;> (try replace hc := nc hc) <;> first | (exfalso; first | contradiction | (omega); done) | skip)) | ((with_reducible refine FinP.on ?_); (refine FinP.ret (.tmp wl .nil) ?_ rfl); (try simp only [pack, List.drop, List.take]); all_goals (rfl)))
theorem MeshComponents_g (v w : Value) (xa : Option Addr) (c : Nat) (l : List Pn) (ts : List T3) (bs : List Bool) (o1 o2 o3 : Option Blk) (hr : Mem.ro [o1, o2, o3]) (hv : SlV [o1, o2] 0 v (flatP l) l.length) (hw : SlV [o1, o2] 1 w (flatT ts) ts.length) (hl : (l.length : Int) ≤ 9223372036854775807) (ht : (ts.length : Int) ≤ 9223372036854775807) (he : liB l ts = true) (hp : 30 < bs.length) :
    PCalls Tryz.prog 6 [.agg #[v, w], .slice xa bs.length c] [o1, o2, o3] (.bool true) := by
  have hLi := fun (m : Mem) (e0 : m.at 0 = Mem.at [o1, o2] 0) (e1 : m.at 1 = Mem.at [o1, o2] 1) => Light_g (m := m) (hv.of e0) (hw.of e1) hl ht
  rw [he] at hLi
  refine PCalls.en 94 Tryz.func6 rfl (hr) rfl (fun E => ?_)
  repeat' (first | with_reducible (first | refine Then.n ?_ | refine Then.r ?_) | ((with_reducible refine AL.on ?_); first | (refine AL.gd rfl ?_; (refine AL.gs0 rfl rfl (fun hc => ?_) (fun hc => ?_) <;> (try replace hc := nc hc) <;> first | (exfalso; contradiction) | (refine AL.nm ?_))) | ((first | ((with_reducible refine AL.k_move ?_); (refine AL.q rfl (OQ.move wl) ?_)) | ((with_reducible refine AL.k_call ?_); refine AL.q rfl (OQ.lenS (xt := 54) (r := (none, 1, false)) rfl kr) ?_) | ((with_reducible refine AL.k_assign ?_); (refine AL.q rfl (OQ.assign wl) ?_)) | ((with_reducible refine AL.k_binOp ?_); refine AL.q rfl (OQ.gtr rfl rfl) ?_) | ((with_reducible refine AL.k_load ?_); refine AL.q rfl (OQ.loadN (ty := 25) (n := 2) rfl kr kr rfl) ?_) | ((with_reducible refine AL.k_pick ?_); first | (refine AL.q rfl (OQ.pickT rfl (by with_reducible rfl) wl) ?_) | (refine AL.q rfl (OQ.pickF rfl (by with_reducible rfl) wl) ?_)) | ((with_reducible refine AL.k_unOp ?_); refine AL.q rfl (OQ.not rfl) ?_)); (refine AL.nm ?_)) | ((first | refine AL.pcall (g := 12) rfl kr rfl ((by exact awake_q _)) ?_ | refine AL.pcall (g := 13) rfl kr rfl ((by exact hLi _ rfl rfl)) ?_); (refine AL.nm ?_)) | ((((with_reducible refine AL.k_box ?_); (refine AL.w rfl (OW.box wl (by intro r h; cases h)) ?_))); (refine AL.nm ?_); (refine AL.nM ?_)) | refine AL.nil ?_) | ((with_reducible refine AW.on ?_); first | refine AW.seq ?_ | refine AW.skip ?_ | refine AW.ret ?_ | refine AW.region ?_ | (refine AW.conds rfl (fun hc => ?_) (fun hc => ?_) <;> (try replace hc := nc hc) <;> first | (exfalso; first | contradiction | (omega); done) | skip)) | ((with_reducible refine FinP.on ?_); (refine FinP.ret (.tmp wl .nil) ?_ rfl); (try simp only [pack, List.drop, List.take]); all_goals (rfl)))
theorem coE_or {l : List Pn} {ts : List T3} {bs : List Bool} (h : coE l ts bs ≠ 0) : (netE l ts ≠ 0 ∧ coE l ts bs = netE l ts) ∨ (netE l ts = 0 ∧ bs.length ≠ (edL ts).length ∧ coE l ts bs = 10) := by
  unfold coE at h ⊢
  by_cases h1 : netE l ts ≠ 0
  · rw [if_pos h1]
    exact .inl ⟨h1, rfl⟩
  · rw [if_neg h1] at h ⊢
    by_cases h2 : bs.length ≠ (edL ts).length
    · rw [if_pos h2]
      exact .inr ⟨Classical.not_not.1 h1, h2, rfl⟩
    · rw [if_neg h2] at h
      exact absurd rfl h
theorem MeshComponents_eb (v w : Value) (xa : Option Addr) (c0 : Nat) (l : List Pn) (ts : List T3) (bs : List Bool) (hv : SlV [Ls.blX (flatP l), Ls.blX (flatT ts)] 0 v (flatP l) l.length) (hw : SlV [Ls.blX (flatP l), Ls.blX (flatT ts)] 1 w (flatT ts) ts.length) (hl : (l.length : Int) ≤ 9223372036854775807) (ht : (ts.length : Int) ≤ 9223372036854775807) (hp : bs.length ≤ 30) (hli : liB l ts = true) (he : coE l ts bs ≠ 0) (hb0 : 0 < bs.length) :
    PCalls Tryz.prog 6 [.agg #[v, w], .slice (some ⟨2, 0, none⟩) bs.length INF] [Ls.blX (flatP l), Ls.blX (flatT ts), some ⟨flatL bs, false, 0⟩] (.bool true) := by
  obtain ⟨l1, l2⟩ := liB_le hli
  have hz : 0 + bs.length = bs.length := Nat.zero_add _
  have hLi := fun (m : Mem) (e0 : m.at 0 = Ls.blX (flatP l)) (e1 : m.at 1 = Ls.blX (flatT ts)) => Light_g (m := m) (hv.of (m' := m) e0) (hw.of (m' := m) e1) hl ht
  rw [hli] at hLi
  have hC := fun (m : Mem) (e0 : m.at 0 = Ls.blX (flatP l)) (e1 : m.at 1 = Ls.blX (flatT ts)) => Copy_g (m := m) (by decide) (hv.of (m' := m) e0) (hw.of (m' := m) e1) (by omega) (by omega)
  have hD := fun (m : Mem) (bP bT bF n : Nat) (F : Blk) (c c2 c3 : Nat) (hA : ArgN m bP bT l ts) (f1 : m.at bF = some F) (f2 : F.cells = flatL bs) (hn : bs.length = n) (f3 : F.obj = Ob.plain) => Components_e (c := c) (c2 := c2) (c3 := c3) l ts bs hA rfl rfl f1 f2 hn he (by omega) (by omega) f3
  have hrN := fun (m : Mem) (e0 : m.at 0 = Ls.blX (flatP l)) (e1 : m.at 1 = Ls.blX (flatT ts)) => rCheckNet_g (m := m) e0 e1 hv hw (by omega) ht
  have hrE : netE l ts = 0 → ∀ (m : Mem) (e0 : m.at 0 = Ls.blX (flatP l)) (e1 : m.at 1 = Ls.blX (flatT ts)), ACalls Tryz.prog 31 [.agg #[v, w]] m (.slice (some ⟨m.length, 0, none⟩) (edL ts).length INF) (m ++ [some ⟨flatP (edL ts), true, 2⟩]) := fun h m m0 m1 => by
    have hR := netE_0.1 h
    have h0 : 0 < ts.length := hR.g.1
    have h2 := two_of hR.all h0
    have e1 : Ls.blX (flatP l) = some ⟨flatP l, false, 0⟩ := if_neg (fun h => by have := (flatP_nil l).1 h; omega)
    have e2 : Ls.blX (flatT ts) = some ⟨flatT ts, false, 0⟩ := if_neg (fun h => by have := (flatT_nil ts).1 h; omega)
    rw [(hv.pos (by omega)).1, (hw.pos h0).1]
    exact rEdges_q l ts hR INF INF (by decide) (m0.trans e1) rfl (m1.trans e2) rfl rfl rfl rfl rfl
  have hr : Mem.ro [Ls.blX (flatP l), Ls.blX (flatT ts), some ⟨flatL bs, false, 0⟩] := fun k blk hk => by
    match k, hk with
    | 0, hk => exact Ls.blX_ro _ _ hk
    | 1, hk => exact Ls.blX_ro _ _ hk
    | 2, hk => cases hk; rfl
    | k + 3, hk => simp [Mem.at] at hk
  have hco := coE_or he
  have hle := edL_le ts
  clear he
  generalize coE l ts bs = CO at *
  generalize netE l ts = E0 at *
  generalize netI l ts = I0 at *
  generalize Ls.blX (flatP l) = o1 at *
  generalize Ls.blX (flatT ts) = o2 at *
  refine PCalls.en 94 Tryz.func6 rfl (hr) rfl (fun E => ?_)
  repeat' (first | with_reducible (first | refine Then.n ?_ | refine Then.r ?_) | ((with_reducible refine AL.on ?_); first | (refine AL.gd rfl ?_; first | (refine AL.gs1 rfl rfl (fun hc => ?_) (fun hc => ?_) <;> (try replace hc := nc hc) <;> first | (exfalso; contradiction) | (refine AL.nm ?_)) | (refine AL.gs0 rfl rfl (fun hc => ?_) (fun hc => ?_) <;> (try replace hc := nc hc) <;> first | (exfalso; contradiction) | (refine AL.nm ?_))) | ((first | ((with_reducible refine AL.k_move ?_); (refine AL.q rfl (OQ.move wl) ?_)) | ((with_reducible refine AL.k_call ?_); first | refine AL.q rfl (OQ.lenS (xt := 54) (r := (none, 1, false)) rfl kr) ?_ | refine AL.q rfl (OQ.lenS (xt := 45) (r := (none, 2, true)) rfl kr) ?_ | refine AL.q rfl (OQ.lenS (xt := 26) (r := (none, 1, false)) rfl kr) ?_) | ((with_reducible refine AL.k_assign ?_); (refine AL.q rfl (OQ.assign wl) ?_)) | ((with_reducible refine AL.k_binOp ?_); first | refine AL.q rfl (OQ.gtr rfl rfl) ?_ | refine AL.q rfl (OQ.eql rfl rfl) ?_ | refine AL.q rfl (OQ.neq rfl rfl) ?_) | ((with_reducible refine AL.k_load ?_); refine AL.q rfl (OQ.loadN (ty := 25) (n := 2) rfl kr kr rfl) ?_) | ((with_reducible refine AL.k_extract ?_); refine AL.q rfl (OQ.extract rfl rfl) ?_) | ((with_reducible refine AL.k_pick ?_); first | (refine AL.q rfl (OQ.pickT rfl (by with_reducible rfl) wl) ?_) | (refine AL.q rfl (OQ.pickF rfl (by with_reducible rfl) wl) ?_)) | ((with_reducible refine AL.k_unOp ?_); refine AL.q rfl (OQ.not rfl) ?_)); (refine AL.nm ?_)) | ((first | refine AL.pcall (g := 12) rfl kr rfl ((by exact awake_q _)) ?_ | refine AL.pcall (g := 13) rfl kr rfl ((by exact hLi _ rfl rfl)) ?_ | refine AL.pcall (g := 35) rfl kr rfl ((by exact hD _ _ _ _ _ _ _ _ _ ⟨⟨_, rfl, rfl, .inr rfl, rfl⟩, ⟨_, rfl, rfl, rfl⟩, by decide⟩ rfl rfl rfl rfl)) ?_ | refine AL.pcall (g := 29) rfl kr rfl ((by exact hrN _ rfl rfl)) ?_); (refine AL.nm ?_)) | ((first | ((with_reducible refine AL.k_call ?_); first | refine AL.acall (g := 15) rfl kr rfl ((by exact hC _ rfl rfl)) ?_ | refine AL.w rfl (OW.append (n := 0) (c := 0) (b := 6) (blk := ⟨[], true, 1⟩) (z := 1) (by' := 1) (zs := [.bool false]) (e := 4) rfl rfl kr kr kr rfl kr (by omega) rfl rfl rfl (by decide) (Nat.le_refl _) (ldL rfl rfl rfl) (flatL_one _) (by omega) (by omega)) ?_ | refine AL.acall (g := 31) rfl kr rfl ((by exact hrE (by omega) _ rfl rfl)) ?_) | ((with_reducible refine AL.k_box ?_); (refine AL.w rfl (OW.box wl (by intro r h; cases h)) ?_)) | ((with_reducible refine AL.k_buildSlice ?_); refine AL.w rfl (OW.buildSl0 (ty := 54) (z := (none, 1, false)) kr) ?_)); (refine AL.nm ?_); (refine AL.nM ?_)) | refine AL.nil ?_) | ((with_reducible refine AW.on ?_); first | refine AW.seq ?_ | refine AW.skip ?_ | refine AW.ret ?_ | (refine AW.region (id := 7) ?_; ((rcases hco with ⟨q1, q2⟩ | ⟨q1, q2, q3⟩))) | refine AW.region ?_ | (refine AW.conds rfl (fun hc => ?_) (fun hc => ?_) <;> (try replace hc := nc hc) <;> first | (exfalso; first | contradiction | (omega); done) | skip)) | ((with_reducible refine FinP.on ?_); (refine FinP.ret (.tmp wl .nil) ?_ rfl); (try simp only [pack, List.drop, List.take]); all_goals (rfl)))
theorem MeshComponents_en (v w : Value) (xa : Option Addr) (c0 : Nat) (l : List Pn) (ts : List T3)  (hv : SlV [Ls.blX (flatP l), Ls.blX (flatT ts)] 0 v (flatP l) l.length) (hw : SlV [Ls.blX (flatP l), Ls.blX (flatT ts)] 1 w (flatT ts) ts.length) (hl : (l.length : Int) ≤ 9223372036854775807) (ht : (ts.length : Int) ≤ 9223372036854775807) (hli : liB l ts = true) (he : coE l ts [] ≠ 0) :
    PCalls Tryz.prog 6 [.agg #[v, w], .slice xa 0 0] [Ls.blX (flatP l), Ls.blX (flatT ts), Ls.blX (flatL [])] (.bool true) := by
  obtain ⟨l1, l2⟩ := liB_le hli
  have hln : ([] : List Bool).length = 0 := rfl
  have hz : 0 + ([] : List Bool).length = ([] : List Bool).length := Nat.zero_add _
  have hLi := fun (m : Mem) (e0 : m.at 0 = Ls.blX (flatP l)) (e1 : m.at 1 = Ls.blX (flatT ts)) => Light_g (m := m) (hv.of (m' := m) e0) (hw.of (m' := m) e1) hl ht
  rw [hli] at hLi
  have hC := fun (m : Mem) (e0 : m.at 0 = Ls.blX (flatP l)) (e1 : m.at 1 = Ls.blX (flatT ts)) => Copy_g (m := m) (by decide) (hv.of (m' := m) e0) (hw.of (m' := m) e1) (by omega) (by omega)
  have hD := fun (m : Mem) (bP bT bF n : Nat) (F : Blk) (c c2 c3 : Nat) (hA : ArgN m bP bT l ts) (f1 : m.at bF = some F) (f2 : F.cells = flatL []) (hn : ([] : List Bool).length = n) (f3 : F.obj = Ob.plain) => Components_e (c := c) (c2 := c2) (c3 := c3) l ts [] hA rfl rfl f1 f2 hn he (by omega) (by omega) f3
  have hrN := fun (m : Mem) (e0 : m.at 0 = Ls.blX (flatP l)) (e1 : m.at 1 = Ls.blX (flatT ts)) => rCheckNet_g (m := m) e0 e1 hv hw (by omega) ht
  have hrE : netE l ts = 0 → ∀ (m : Mem) (e0 : m.at 0 = Ls.blX (flatP l)) (e1 : m.at 1 = Ls.blX (flatT ts)), ACalls Tryz.prog 31 [.agg #[v, w]] m (.slice (some ⟨m.length, 0, none⟩) (edL ts).length INF) (m ++ [some ⟨flatP (edL ts), true, 2⟩]) := fun h m m0 m1 => by
    have hR := netE_0.1 h
    have h0 : 0 < ts.length := hR.g.1
    have h2 := two_of hR.all h0
    have e1 : Ls.blX (flatP l) = some ⟨flatP l, false, 0⟩ := if_neg (fun h => by have := (flatP_nil l).1 h; omega)
    have e2 : Ls.blX (flatT ts) = some ⟨flatT ts, false, 0⟩ := if_neg (fun h => by have := (flatT_nil ts).1 h; omega)
    rw [(hv.pos (by omega)).1, (hw.pos h0).1]
    exact rEdges_q l ts hR INF INF (by decide) (m0.trans e1) rfl (m1.trans e2) rfl rfl rfl rfl rfl
  have hr : Mem.ro [Ls.blX (flatP l), Ls.blX (flatT ts), Ls.blX (flatL [])] := ro_bl3 _ _ _
  have hco := coE_or he
  have hle := edL_le ts
  clear he
  generalize coE l ts [] = CO at *
  generalize netE l ts = E0 at *
  generalize netI l ts = I0 at *
  generalize Ls.blX (flatP l) = o1 at *
  generalize Ls.blX (flatT ts) = o2 at *
  refine PCalls.en 94 Tryz.func6 rfl (hr) rfl (fun E => ?_)
  repeat' (first | with_reducible (first | refine Then.n ?_ | refine Then.r ?_) | ((with_reducible refine AL.on ?_); first | (refine AL.gd rfl ?_; first | (refine AL.gs1 rfl rfl (fun hc => ?_) (fun hc => ?_) <;> (try replace hc := nc hc) <;> first | (exfalso; contradiction) | (refine AL.nm ?_)) | (refine AL.gs0 rfl rfl (fun hc => ?_) (fun hc => ?_) <;> (try replace hc := nc hc) <;> first | (exfalso; contradiction) | (refine AL.nm ?_))) | ((first | ((with_reducible refine AL.k_move ?_); (refine AL.q rfl (OQ.move wl) ?_)) | ((with_reducible refine AL.k_call ?_); first | refine AL.q rfl (OQ.lenS (xt := 54) (r := (none, 1, false)) rfl kr) ?_ | refine AL.q rfl (OQ.lenS (xt := 45) (r := (none, 2, true)) rfl kr) ?_ | refine AL.q rfl (OQ.lenS (xt := 26) (r := (none, 1, false)) rfl kr) ?_) | ((with_reducible refine AL.k_assign ?_); (refine AL.q rfl (OQ.assign wl) ?_)) | ((with_reducible refine AL.k_binOp ?_); first | refine AL.q rfl (OQ.gtr rfl rfl) ?_ | refine AL.q rfl (OQ.eql rfl rfl) ?_ | refine AL.q rfl (OQ.neq rfl rfl) ?_) | ((with_reducible refine AL.k_load ?_); refine AL.q rfl (OQ.loadN (ty := 25) (n := 2) rfl kr kr rfl) ?_) | ((with_reducible refine AL.k_extract ?_); refine AL.q rfl (OQ.extract rfl rfl) ?_) | ((with_reducible refine AL.k_pick ?_); first | (refine AL.q rfl (OQ.pickT rfl (by with_reducible rfl) wl) ?_) | (refine AL.q rfl (OQ.pickF rfl (by with_reducible rfl) wl) ?_)) | ((with_reducible refine AL.k_unOp ?_); refine AL.q rfl (OQ.not rfl) ?_)); (refine AL.nm ?_)) | ((first | refine AL.pcall (g := 12) rfl kr rfl ((by exact awake_q _)) ?_ | refine AL.pcall (g := 13) rfl kr rfl ((by exact hLi _ rfl rfl)) ?_ | refine AL.pcall (g := 35) rfl kr rfl ((by exact hD _ _ _ _ _ _ _ _ _ ⟨⟨_, rfl, rfl, .inr rfl, rfl⟩, ⟨_, rfl, rfl, rfl⟩, by decide⟩ rfl rfl rfl rfl)) ?_ | refine AL.pcall (g := 29) rfl kr rfl ((by exact hrN _ rfl rfl)) ?_); (refine AL.nm ?_)) | ((first | ((with_reducible refine AL.k_call ?_); first | refine AL.acall (g := 15) rfl kr rfl ((by exact hC _ rfl rfl)) ?_ | refine AL.q rfl (by exact OQ.append0 (v := undef) (st := 54) (e := 4) (z := 1) rfl rfl kr kr) ?_ | refine AL.acall (g := 31) rfl kr rfl ((by exact hrE (by omega) _ rfl rfl)) ?_) | ((with_reducible refine AL.k_box ?_); (refine AL.w rfl (OW.box wl (by intro r h; cases h)) ?_)) | ((with_reducible refine AL.k_buildSlice ?_); refine AL.w rfl (OW.buildSl0 (ty := 54) (z := (none, 1, false)) kr) ?_)); (refine AL.nm ?_); (refine AL.nM ?_)) | refine AL.nil ?_) | ((with_reducible refine AW.on ?_); first | refine AW.seq ?_ | refine AW.skip ?_ | refine AW.ret ?_ | (refine AW.region (id := 7) ?_; ((rcases hco with ⟨q1, q2⟩ | ⟨q1, q2, q3⟩))) | refine AW.region ?_ | (refine AW.conds rfl (fun hc => ?_) (fun hc => ?_) <;> (try replace hc := nc hc) <;> first | (exfalso; first | contradiction | (omega); done) | skip)) | ((with_reducible refine FinP.on ?_); (refine FinP.ret (.tmp wl .nil) ?_ rfl); (try simp only [pack, List.drop, List.take]); all_goals (rfl)))
theorem MeshComponents_y (l : List Pn) (ts : List T3) (bs : List Bool) (hli : liB l ts = true) (hR : NetR l ts) (hbl : bs.length = (edL ts).length) (hp : bs.length ≤ 30) :
    PCalls Tryz.prog 6 [.agg #[.slice (some ⟨0, 0, none⟩) l.length INF, .slice (some ⟨1, 0, none⟩) ts.length INF], .slice (some ⟨2, 0, none⟩) bs.length INF] [some ⟨flatP l, false, 0⟩, some ⟨flatT ts, false, 0⟩, some ⟨flatL bs, false, 0⟩] (.bool true) := by
  obtain ⟨l1, l2⟩ := liB_le hli
  have h0 : 0 < ts.length := hR.g.1
  have h2 := two_of hR.all h0
  have hle := edL_le ts
  have hpos := edL_pos hR
  have h80 := hR.le
  have h40 := (cp_ok hR.cp).1
  have hz : 0 + (edL ts).length = (edL ts).length := Nat.zero_add _
  have e1 : Ls.blX (flatP l) = some ⟨flatP l, false, 0⟩ := if_neg (fun h => by have := (flatP_nil l).1 h; omega)
  have e2 : Ls.blX (flatT ts) = some ⟨flatT ts, false, 0⟩ := if_neg (fun h => by have := (flatT_nil ts).1 h; omega)
  have hrN : ∀ (m : Mem) (e0 : m.at 0 = some ⟨flatP l, false, 0⟩) (e1 : m.at 1 = some ⟨flatT ts, false, 0⟩), PCalls Tryz.prog 29 [.agg #[.slice (some ⟨0, 0, none⟩) l.length INF, .slice (some ⟨1, 0, none⟩) ts.length INF]] m (.tuple #[.int .i64 (netI l ts), .int .i64 (netE l ts)]) := fun m m0 m1 =>
    rCheckNet_g (m := m) (by rw [e1]; exact m0) (by rw [e2]; exact m1) (.blk _ (by omega) rfl e1 rfl rfl) (.blk _ h0 rfl e2 rfl rfl) (by omega) (by omega)
  have hLi := fun (m : Mem) (A B : Blk) (a1 : m.at 0 = some A) (a2 : A.cells = flatP l) (b1 : m.at 1 = some B) (b2 : B.cells = flatT ts) (a3 : A.obj = Ob.plain) (b3 : B.obj = Ob.plain) => Light_g (m := m) (i := 0) (j := 1) (.blk A (by omega) rfl a1 a2 a3) (.blk B h0 rfl b1 b2 b3) (by omega) (by omega)
  rw [hli] at hLi
  rw [netE_0.2 hR] at hrN
  have hC := fun (m : Mem) (A B : Blk) (a1 : m.at 0 = some A) (a2 : A.cells = flatP l) (b1 : m.at 1 = some B) (b2 : B.cells = flatT ts) (a3 : A.obj = Ob.plain) (b3 : B.obj = Ob.plain) => Copy_y (m := m) (i := 0) (j := 1) (by decide) (by omega) h0 (by omega) (by omega) a1 a2 b1 b2 a3 b3
  have hrE := fun (m : Mem) (A B : Blk) (a1 : m.at 0 = some A) (a2 : A.cells = flatP l) (b1 : m.at 1 = some B) (b2 : B.cells = flatT ts) (a3 : A.obj = Ob.plain) (b3 : B.obj = Ob.plain) (a4 : A.esz = 0) (b4 : B.esz = 0) => rEdges_q l ts hR INF INF (by decide) a1 a2 b1 b2 a3 b3 a4 b4
  have hD := fun (m : Mem) (bP bT bF n : Nat) (F : Blk) (c3 : Nat) (hA : ArgN m bP bT l ts) (f1 : m.at bF = some F) (f2 : F.cells = flatL bs) (hn : bs.length = n) (hd : [bP, bT, bF].Nodup) (f3 : F.obj = Ob.plain) => Components_y (c := INF) (c2 := INF) (c3 := c3) l ts bs hA rfl rfl f1 f2 hn hR hbl hd f3
  have hD2 := fun (m : Mem) (bP bT bF n : Nat) (F : Blk) (c3 : Nat) (hA : ArgN m bP bT l ts) (f1 : m.at bF = some F) (f2 : F.cells = flatL (alK (edL ts).length (edL ts).length)) (hn : (alK (edL ts).length (edL ts).length).length = n) (hd : [bP, bT, bF].Nodup) (f3 : F.obj = Ob.plain) => Components_y (c := INF) (c2 := INF) (c3 := c3) l ts _ hA rfl rfl f1 f2 hn hR (alK_len _ _) hd f3
  rw [cm_one hR (by omega) (fun k hk => alK_all hk)] at hD2
  have hak := alK_len (edL ts).length (edL ts).length
  have hrD := fun (m : Mem) (A B X : Blk) (a1 : m.at 0 = some A) (a2 : A.cells = flatP l) (b1 : m.at 1 = some B) (b2 : B.cells = flatT ts) (x1 : m.at 2 = some X) (x2 : X.cells = flatL bs) (a3 : A.obj = Ob.plain) (b3 : B.obj = Ob.plain) (x3 : X.obj = Ob.plain) (a4 : A.esz = 0) (b4 : B.esz = 0) => rComponents_q l ts bs hR hbl INF INF INF (by decide) a1 a2 b1 b2 x1 x2 hbl a3 b3 x3 a4 b4
  have hml := cmE_len (edL ts) bs l.length (edL ts).length
  have hQ1 := fun (m : Mem) (b b' : Nat) (X Y : Blk) (x1 : m.at b = some X) (x2 : X.cells = flatN (cmE (edL ts) bs l.length (edL ts).length)) (y1 : m.at b' = some Y) (y2 : Y.cells = flatN (cmE (edL ts) bs l.length (edL ts).length)) (x3 : X.obj = Ob.plain) (y3 : Y.obj = Ob.plain) => Ints_q (n := l.length) (n' := l.length) (c := INF) (d := INF) (cmE (edL ts) bs l.length (edL ts).length) (cmE (edL ts) bs l.length (edL ts).length) (by omega) x1 x2 hml y1 y2 hml x3 y3
  have hQ2 := fun (m : Mem) (b b' d : Nat) (X Y : Blk) (x1 : m.at b = some X) (x2 : X.cells = flatN (List.replicate l.length 0)) (y1 : m.at b' = some Y) (y2 : Y.cells = flatN (List.replicate l.length 0)) (x3 : X.obj = Ob.plain) (y3 : Y.obj = Ob.plain) => Ints_q (n := l.length) (n' := l.length) (c := INF) (d := d) (List.replicate l.length 0) (List.replicate l.length 0) (by rw [List.length_replicate]; omega) x1 x2 List.length_replicate y1 y2 List.length_replicate x3 y3
  rw [decide_eq_true rfl] at hQ1 hQ2
  have hld : ∀ (m : Mem) (b : Nat) (blk : Blk), m.at b = some blk → blk.cells = flatL bs → m.ld b 0 ((edL ts).length * 1) = some (flatL bs) := fun m b blk h1 h2 => ldL h1 h2 hbl
  have hone := flatL_one bs
  have hsc := flatL_scal bs
  rw [hbl]
  rw [hbl] at hp
  generalize netI l ts = I0 at *
  generalize cmE (edL ts) bs l.length (edL ts).length = CM at *
  refine PCalls.enJ 94 Tryz.func6 rfl (ro3p _ _ _ rfl rfl rfl) rfl (fun E hE => ?_)
  repeat' (first | with_reducible (first | refine Then.n ?_ | refine Then.x ?_ | refine InB.n ?_ | refine InB.hit ?_) | ((with_reducible refine AL.on ?_); first | (refine AL.gd rfl ?_; first | (refine AL.gs1 rfl rfl (fun hc => ?_) (fun hc => ?_) <;> (try replace hc := nc hc) <;> first | (exfalso; contradiction) | (refine AL.nm ?_)) | (refine AL.gs0 rfl rfl (fun hc => ?_) (fun hc => ?_) <;> (try replace hc := nc hc) <;> first | (exfalso; contradiction) | (refine AL.nm ?_))) | ((first | ((with_reducible refine AL.k_move ?_); (refine AL.q rfl (OQ.move wl) ?_)) | ((with_reducible refine AL.k_call ?_); first | refine AL.q rfl (OQ.lenS (xt := 54) (r := (none, 1, false)) rfl kr) ?_ | refine AL.q rfl (OQ.lenS (xt := 45) (r := (none, 2, true)) rfl kr) ?_ | refine AL.q rfl (OQ.lenS (xt := 22) (r := (none, 2, true)) rfl kr) ?_) | ((with_reducible refine AL.k_assign ?_); (refine AL.q rfl (OQ.assign wl) ?_)) | ((with_reducible refine AL.k_binOp ?_); first | refine AL.q rfl (OQ.gtr rfl rfl) ?_ | refine AL.q rfl (OQ.eql rfl rfl) ?_ | refine AL.q rfl (OQ.neq rfl rfl) ?_ | refine AL.q rfl (OQ.lss rfl rfl) ?_ | refine AL.q rfl (OQ.addi rfl rfl (by omega)) ?_) | ((with_reducible refine AL.k_load ?_); first | refine AL.q rfl (OQ.loadN (ty := 25) (n := 2) rfl kr kr rfl) ?_ | (refine AL.q rfl (OQ.load1 (ty := 22) rfl kr wl) ?_)) | ((with_reducible refine AL.k_extract ?_); refine AL.q rfl (OQ.extract rfl rfl) ?_) | ((with_reducible refine AL.k_pick ?_); first | (refine AL.q rfl (OQ.pickT rfl (by with_reducible rfl) wl) ?_) | (refine AL.q rfl (OQ.pickF rfl (by with_reducible rfl) wl) ?_)) | ((with_reducible refine AL.k_unOp ?_); refine AL.q rfl (OQ.not rfl) ?_) | ((with_reducible refine AL.k_indexAddr ?_); refine AL.q rfl (OQ.idxAddr (ty := 54) (z := 1) (g := false) rfl rfl kr (by omega) (by omega)) ?_) | ((with_reducible refine AL.k_fieldAddr ?_); refine AL.q rfl (OQ.fieldA (ty := 25) (i := 0) (n := 1) (off := 0) (g := false) rfl kr (by decide)) ?_)); (refine AL.nm ?_)) | ((first | refine AL.pcall (g := 12) rfl kr rfl ((by exact awake_q _)) ?_ | refine AL.pcall (g := 13) rfl kr rfl ((by exact hLi _ _ _ rfl rfl rfl rfl rfl rfl)) ?_ | refine AL.pcall (g := 29) rfl kr rfl ((by exact hrN _ rfl rfl)) ?_ | refine AL.pcall (g := 20) rfl kr rfl ((by first | exact hQ1 _ _ _ _ _ rfl rfl rfl rfl rfl rfl | exact hQ2 _ _ _ _ _ _ rfl rfl rfl (flatN_zero (fun i => by simp [Nat.mod_one])) rfl rfl)) ?_); (refine AL.nm ?_)) | ((first | ((with_reducible refine AL.k_call ?_); first | refine AL.acall (g := 15) rfl kr rfl ((by exact hC _ _ _ rfl rfl rfl rfl rfl rfl)) ?_ | refine AL.w rfl (OW.append (n := 0) (c := 0) (b := 6) (blk := ⟨[], true, 1⟩) (z := 1) (by' := 1) (zs := [.bool false]) (e := 4) rfl rfl kr kr kr rfl kr (by omega) rfl rfl rfl (by decide) (Nat.le_refl _) (hld _ _ _ rfl rfl) hone (by omega) (by omega)) ?_ | refine AL.acall (g := 35) rfl kr rfl ((by first | exact hD _ _ _ _ _ _ _ ⟨⟨_, rfl, rfl, .inr rfl, rfl⟩, ⟨_, rfl, rfl, rfl⟩, by decide⟩ rfl rfl hbl (by decide) rfl | exact hD2 _ _ _ _ _ _ _ ⟨⟨_, rfl, rfl, .inr rfl, rfl⟩, ⟨_, rfl, rfl, rfl⟩, by decide⟩ rfl rfl hak (by decide) rfl)) ?_ | refine AL.acall (g := 31) rfl kr rfl ((by exact hrE _ _ _ rfl rfl rfl rfl rfl rfl rfl rfl)) ?_ | refine AL.acall (g := 36) rfl kr rfl ((by exact hrD _ _ _ _ rfl rfl rfl rfl rfl rfl rfl rfl rfl rfl rfl)) ?_) | ((with_reducible refine AL.k_box ?_); (refine AL.w rfl (OW.box wl (by intro r h; cases h)) ?_)) | ((with_reducible refine AL.k_buildSlice ?_); refine AL.w rfl (OW.buildSl0 (ty := 54) (z := (none, 1, false)) kr) ?_) | ((with_reducible refine AL.k_store ?_); (refine AL.w rfl (OW.store (ty := 4) (n := 1) rfl wl rfl rfl kr rfl rfl (by decide) rfl (by (((simp only [flatL_len, alK_len]; omega)))) (by intro r h; cases h)) ?_)) | refine AL.w rfl (OW.makeSl (st := 54) (e := 4) (z := 1) (by' := 1) (zs := [.bool false]) rfl kr kr kr rfl rfl kr (by decide) (by omega) (by omega)) ?_ | refine AL.w rfl (OW.makeSl (st := 26) (e := 3) (z := 1) (by' := 8) (zs := [.int .i64 0]) rfl kr kr kr rfl rfl kr (by decide) (by omega) (by omega)) ?_); (refine AL.nm ?_); (refine AL.nM ?_)) | refine AL.nil ?_) | ((with_reducible refine AW.on ?_); first | refine AW.seq ?_ | refine AW.skip ?_ | refine AW.exit ?_ | refine AW.ret ?_ | ((refine AW.block (id := 0) ?_); (refine AW.fk [2, 9, 10] ?_); (refine AW.wk (t' := [jk, jk, .pointer (some ⟨3, 0, none⟩), jk, jk, jk, jk, jk, jk, .slice (some ⟨11, 0, none⟩) (edL ts).length (edL ts).length, .int .i64 (0), jk, jk, jk, jk, jk, jk, jk, jk, jk, jk, jk, jk, jk, jk, jk, jk, jk, jk, jk, jk, jk, jk, jk, jk, jk, jk, jk, jk, jk, jk, jk, jk, jk, jk, jk, jk, jk, jk, jk, jk, jk, jk, jk, jk, jk, jk, jk, jk, jk, jk, jk, jk, jk, jk, jk, jk, jk, jk, jk, jk, jk, jk, jk, jk, jk, jk, jk, jk, jk, jk, jk, jk, jk, jk, jk, jk, jk, jk, jk, jk, jk, jk, jk, jk, jk]) (m' := [some ⟨flatP l, false, 0⟩, some ⟨flatT ts, false, 0⟩, some ⟨flatL bs, false, 0⟩, some ⟨[.slice (some ⟨0, 0, none⟩) l.length INF, .slice (some ⟨1, 0, none⟩) ts.length INF], true, 0⟩, some ⟨flatP l, true, 2⟩, some ⟨flatT ts, true, 3⟩, none, some ⟨flatL bs, true, 1⟩, some ⟨flatN CM, true, 1⟩, some ⟨flatP (edL ts), true, 2⟩, some ⟨flatN CM, true, 1⟩, some ⟨flatL (alK (edL ts).length 0), true, 1⟩]) (Wk.keep 12 [] (by rw [hE]; exact Nat.le_of_ble_eq_true rfl) rfl rfl (by repeat (first | exact RenT.nil | refine RenT.jk ?_ | refine RenT.val (by rfl) (by rfl) ?_)) ⟨⟨_, rfl, rfl, rfl, .inl ⟨rfl, flatP_scal l⟩⟩, ⟨_, rfl, rfl, rfl, .inl ⟨rfl, flatT_scal ts⟩⟩, ⟨_, rfl, rfl, rfl, .inl ⟨rfl, hsc⟩⟩, ⟨_, rfl, rfl, rfl, .inr ⟨rfl, rfl⟩⟩, ⟨_, rfl, rfl, rfl, .inl ⟨rfl, flatP_scal l⟩⟩, ⟨_, rfl, rfl, rfl, .inl ⟨rfl, flatT_scal ts⟩⟩, ⟨_, rfl, rfl, rfl, .inl ⟨rfl, hsc⟩⟩, ⟨_, rfl, rfl, rfl, .inl ⟨rfl, flatN_scal _⟩⟩, ⟨_, rfl, rfl, rfl, .inl ⟨rfl, flatP_scal _⟩⟩, ⟨_, rfl, rfl, rfl, .inl ⟨rfl, flatN_scal _⟩⟩, ⟨_, rfl, rfl, rfl, .inl ⟨alK_0 (fun i => by simp [Nat.mod_one]), flatL_scal _⟩⟩, trivial⟩) ?_); (refine AW.loop (fun n' t' m => ∃ i : Nat, n' = (edL ts).length - i ∧ i ≤ (edL ts).length ∧ t' = [jk, jk, .pointer (some ⟨3, 0, none⟩), jk, jk, jk, jk, jk, jk, .slice (some ⟨11, 0, none⟩) (edL ts).length (edL ts).length, .int .i64 (i), jk, jk, jk, jk, jk, jk, jk, jk, jk, jk, jk, jk, jk, jk, jk, jk, jk, jk, jk, jk, jk, jk, jk, jk, jk, jk, jk, jk, jk, jk, jk, jk, jk, jk, jk, jk, jk, jk, jk, jk, jk, jk, jk, jk, jk, jk, jk, jk, jk, jk, jk, jk, jk, jk, jk, jk, jk, jk, jk, jk, jk, jk, jk, jk, jk, jk, jk, jk, jk, jk, jk, jk, jk, jk, jk, jk, jk, jk, jk, jk, jk, jk, jk, jk, jk] ∧ m = [some ⟨flatP l, false, 0⟩, some ⟨flatT ts, false, 0⟩, some ⟨flatL bs, false, 0⟩, some ⟨[.slice (some ⟨0, 0, none⟩) l.length INF, .slice (some ⟨1, 0, none⟩) ts.length INF], true, 0⟩, some ⟨flatP l, true, 2⟩, some ⟨flatT ts, true, 3⟩, none, some ⟨flatL bs, true, 1⟩, some ⟨flatN CM, true, 1⟩, some ⟨flatP (edL ts), true, 2⟩, some ⟨flatN CM, true, 1⟩, some ⟨flatL (alK (edL ts).length i), true, 1⟩]) ((edL ts).length) (by exact ⟨0, rfl, Nat.zero_le _, rfl, rfl⟩) ?_); (rintro n' t' m ⟨i, rfl, hi, rfl, rfl⟩)) | refine AW.block ?_ | (refine AW.region (id := 18) ?_; ((obtain rfl : i = (edL ts).length := (by omega)))) | refine AW.region ?_ | (refine AW.conds rfl (fun hc => ?_) (fun hc => ?_) <;> (try replace hc := nc hc) <;> first | (exfalso; first | contradiction | (omega); done) | skip)) | ((with_reducible refine ex_on ?_); (have hs := alK_set (n := (edL ts).length) (i := i) (by omega); refine ⟨(edL ts).length - (i + 1), [jk, jk, .pointer (some ⟨3, 0, none⟩), jk, jk, jk, jk, jk, jk, .slice (some ⟨11, 0, none⟩) (edL ts).length (edL ts).length, .int .i64 (((i + 1 : Nat) : Int)), jk, jk, jk, jk, jk, jk, jk, jk, jk, jk, jk, jk, jk, jk, jk, jk, jk, jk, jk, jk, jk, jk, jk, jk, jk, jk, jk, jk, jk, jk, jk, jk, jk, jk, jk, jk, jk, jk, jk, jk, jk, jk, jk, jk, jk, jk, jk, jk, jk, jk, jk, jk, jk, jk, jk, jk, jk, jk, jk, jk, jk, jk, jk, jk, jk, jk, jk, jk, jk, jk, jk, jk, jk, jk, jk, jk, jk, jk, jk, jk, jk, jk, jk, jk, jk], [some ⟨flatP l, false, 0⟩, some ⟨flatT ts, false, 0⟩, some ⟨flatL bs, false, 0⟩, some ⟨[.slice (some ⟨0, 0, none⟩) l.length INF, .slice (some ⟨1, 0, none⟩) ts.length INF], true, 0⟩, some ⟨flatP l, true, 2⟩, some ⟨flatT ts, true, 3⟩, none, some ⟨flatL bs, true, 1⟩, some ⟨flatN CM, true, 1⟩, some ⟨flatP (edL ts), true, 2⟩, some ⟨flatN CM, true, 1⟩, some ⟨flatL (alK (edL ts).length (i + 1)), true, 1⟩], by omega, ?_, i + 1, rfl, by omega, rfl, rfl⟩; rw [← hs]; exact Wk.fk [2, 9, 10] rfl)) | ((with_reducible refine FinJ.on ?_); exact FinJ.ret (.tmp wl .nil) (jle_flat rfl)))
theorem MeshComponents_q (v w u : Value) (l : List Pn) (ts : List T3) (bs : List Bool) (hv : SlV [Ls.blX (flatP l), Ls.blX (flatT ts)] 0 v (flatP l) l.length) (hw : SlV [Ls.blX (flatP l), Ls.blX (flatT ts)] 1 w (flatT ts) ts.length) (hu : SlV [Ls.blX (flatP l), Ls.blX (flatT ts), Ls.blX (flatL bs)] 2 u (flatL bs) bs.length) (hl : (l.length : Int) ≤ 9223372036854775807) (ht : (ts.length : Int) ≤ 9223372036854775807) :
    PCalls Tryz.prog 6 [.agg #[v, w], u] [Ls.blX (flatP l), Ls.blX (flatT ts), Ls.blX (flatL bs)] (.bool true) := by
  have hr := ro_bl3 (flatP l) (flatT ts) (flatL bs)
  cases hli : liB l ts with
  | false => exact MeshComponents_f v w u l ts _ _ _ hr hv hw hl ht hli
  | true =>
    obtain ⟨xa, c, rfl⟩ : ∃ xa c, u = .slice xa bs.length c := by
      rcases hu with ⟨k, h0, h1, h2, h3, h4⟩ | ⟨h1, h2⟩ | ⟨h1, h2⟩
      · exact ⟨_, _, h1⟩
      · exact ⟨none, 0, by rw [h1]; exact h2⟩
      · exact ⟨_, 0, by rw [h1]; exact h2⟩
    by_cases hp : 30 < bs.length
    · exact MeshComponents_g v w xa c l ts bs _ _ _ hr hv hw hl ht hli hp
    · by_cases he : coE l ts bs = 0
      · have he1 : netE l ts = 0 := Classical.not_not.1 fun h => by
          unfold coE at he
          rw [if_pos h] at he
          exact h he
        have hbl : bs.length = (edL ts).length := Classical.not_not.1 fun h => by
          unfold coE at he
          rw [if_neg (fun h => h he1), if_pos h] at he
          cases he
        have hR := netE_0.1 he1
        have h0 : 0 < ts.length := hR.g.1
        have h2 := two_of hR.all h0
        have hpos := edL_pos hR
        have h1 := MeshComponents_y l ts bs hli hR hbl (by omega)
        have e1 : Ls.blX (flatP l) = some ⟨flatP l, false, 0⟩ := if_neg (fun h => by have := (flatP_nil l).1 h; omega)
        have e2 : Ls.blX (flatT ts) = some ⟨flatT ts, false, 0⟩ := if_neg (fun h => by have := (flatT_nil ts).1 h; omega)
        have e3 : Ls.blX (flatL bs) = some ⟨flatL bs, false, 0⟩ := if_neg (fun h => by have := (flatL_nil bs).1 h; omega)
        rw [(hv.pos (by omega)).1, (hw.pos h0).1, (hu.pos (by omega)).1, e1, e2, e3]
        exact h1
      · by_cases hz : bs.length = 0
        · obtain rfl := List.eq_nil_of_length_eq_zero hz
          rcases hu with ⟨k, h0, h1, h2, h3, h4⟩ | ⟨h1, h2⟩ | ⟨h1, h2⟩
          · exact absurd h0 (by simp)
          · rw [h2]
            exact MeshComponents_en v w none 0 l ts hv hw hl ht hli he
          · rw [h2]
            exact MeshComponents_en v w _ 0 l ts hv hw hl ht hli he
        · have e3 : Ls.blX (flatL bs) = some ⟨flatL bs, false, 0⟩ := if_neg (fun h => by have := (flatL_nil bs).1 h; omega)
          rw [(hu.pos (by omega)).1, e3]
          exact MeshComponents_eb v w none 0 l ts bs hv hw hl ht (by omega) hli he (by omega)
end Go.Proofs.YtmohcmghbfhdlaaGreat
end

section
namespace Go.Proofs.YtmohcmghbfhdlaaGreat.MeshComponents
open Go.ChangeShapes Go.WideShapes Go.ChangeAt Go Go.RowKit Go.Ab Go.Ls Go.Me Go.Proofs.YtmohcmghbfhdlaaGreat
set_option maxRecDepth 100000
theorem walk {W : World} (a : Option Addr) (l : List Pn) (cap : Nat) (b : Option Addr) (ts : List T3) (cat : Nat) (hcap : l.length ≤ cap) (hcm : cap ≤ maxLen) (hS : SlX W a (flatP l)) (hz : a = none → cap = 0) (hcat : ts.length ≤ cat) (hcmt : cat ≤ maxLen) (hT : SlX W b (flatT ts)) (hzt : b = none → cat = 0)
    (d : Option Addr) (bs : List Bool) (cad : Nat) (hcad : bs.length ≤ cad) (hcmd : cad ≤ maxLen) (hN : SlX W d (flatL bs)) (hzd : d = none → cad = 0) :
    Calls Tryz.prog 6 #[.agg #[.slice a l.length cap, .slice b ts.length cat], .slice d bs.length cad] W fun e w' => e = .returned (.bool true) ∧ Below W.heap.size W w' := by
  simp only [maxLen] at hcm hcmt
  refine glueL (args := [argN 0 a b l ts, vaX 2 bs.length d.isNone]) [(a, flatP l), (b, flatT ts), (d, flatL bs)] (fun x hx => ?_) ?_ (MeshComponents_q _ _ _ l ts bs (.arg rfl (flatP_nil l)) (.arg rfl (flatT_nil ts)) (.arg rfl (flatL_nil bs)) (by omega) (by omega))
  · simp only [List.mem_cons, List.not_mem_nil, or_false] at hx
    rcases hx with rfl | rfl | rfl
    · exact ⟨flatP_scal l, hS⟩
    · exact ⟨flatT_scal ts, hT⟩
    · exact ⟨flatL_scal bs, hN⟩
  · refine .tuple rfl fun i h h' => ?_
    match i, h with
    | 0, _ => exact argN_rel hS hT hcap hcat hz hzt rfl rfl
    | 1, _ => exact vaX_rel hN (flatL_nil bs) hcad hzd rfl
    | i + 2, h => exact absurd h (by simp)

set_option maxRecDepth 100000 in
theorem lifted (os : Os) (started : os.Started) (H : Type) (enc : TypeId × Value → H) :
    ReturnsInHanded {} Tryz.checked os 6 .any (Rows.meshComponentsSpec.pre6 enc Tryz.prog Tryz.f6 Rows.meshComponentsRow.domain false) (Rows.meshComponentsSpec.post enc Tryz.prog Tryz.f6 false true false false) := by
  refine returnsInHanded_of_change (C := Tryz.checked) own started (by kernel_rfl) Tryz.func6
    (ChangeSpec.witness6 (enc := enc) (C := Tryz.checked) false ⟨#[], #[.agg #[.slice none 0 0, .slice none 0 0], .slice none 0 0], []⟩ 8 (by kernel_rfl) (by kernel_rfl) (by kernel_rfl) (by kernel_rfl)) ?_
  intro W base args ds gs before hval0 hW hcnd _
  have hval : ∀ (j : Nat) t v, Tryz.f6.params[j]? = some t → args[j]? = some v → Value.okWide Tryz.prog W .any base t v := hval0
  have hW' := hW
  obtain ⟨p, q, hA0, hV, rfl, hfz, hnd⟩ := hW
  have hA : DataW.TrodAll enc Tryz.prog W 0 (fun _ => true) true Tryz.f6.params.toList args.toList ds p := hA0
  rw [Tryz.params6] at hA hval
  obtain ⟨v0, vs0, d0, ds0, p0, q0, hargs, rfl, rfl, h0, r0⟩ := trodAll_cons hA
  obtain ⟨v1, vs1, d1, ds1, p1, q1, rfl, rfl, rfl, h1, r1⟩ := trodAll_cons r0
  obtain ⟨rfl, rfl, rfl⟩ := trodAll_nil r1
  obtain rfl : args = #[v0, v1] := by cases args; simp_all
  obtain ⟨rfl, rfl⟩ := trodVars_none hV
  clear hA0 hval0
  have hlt := hW'.lt
  have g0 := h0
  have g1 := h1
  obtain ⟨a0, l0, cap0, b0, t0, cat0, rfl, hcap0, hcm0, hS0, hz0, hcat0, hcmt0, hT0, hzt0⟩ := open_MN (hval 0 25 v0 rfl rfl) h0
  obtain ⟨a1, l1, cap1, rfl, hcap1, hcm1, hS1, hz1⟩ := open_BL (hval 1 54 v1 rfl rfl) h1
  simp only [List.append_nil] at hW' hlt ⊢
  refine (walk a0 l0 cap0 b0 t0 cat0 hcap0 hcm0 hS0 hz0 hcat0 hcmt0 hT0 hzt0 a1 l1 cap1 hcap1 hcm1 hS1 hz1).mono fun e W' ⟨he, hb⟩ => ?_
  subst he
  have stay : ∀ (t : TypeId) v d ps (sp : Nat → Bool), Tryz.prog.readableRec t = true → t < Tryz.prog.types.size → DataW.Trod enc Tryz.prog W 0 (fun _ => true) true t v d ps → (∀ x ∈ ps, x.block < W.heap.size) → (∀ x ∈ ps, sp x.block = true) → DataW.Trod enc Tryz.prog W' 0 sp true t v d ps :=
    fun t v d ps sp hr ht h hx hs => Go.WideElems.Trod_stays laid hr ht h (fun x hxp => hb.same (hx x hxp)) hs
  exact ⟨_, rfl, post_below (pa := p0 ++ (p1 ++ [])) (pv := []) hW' (fun _ _ _ => trodAll_mk1 (shut_bool Tryz.underlying4 true)) (fun sp hs => (trodAll_cons_mk (stay 25 _ _ _ sp (by kernel_rfl) (of_decide_eq_true (by kernel_rfl)) g0 (fun x hx => hlt x (by simp [hx])) (fun x hx => hs x (by simp [hx]))) (trodAll_cons_mk (stay 54 _ _ _ sp (by kernel_rfl) (of_decide_eq_true (by kernel_rfl)) g1 (fun x hx => hlt x (by simp [hx])) (fun x hx => hs x (by simp [hx]))) (trodAll_mk0)))) (fun _ _ => rfl) (by simp)
    hb (ok_one (by kernel_rfl) rfl (okWide_bool_mk Tryz.underlying4 true))⟩

theorem over : Rows.meshComponentsRow.holds Tryz.pinned (OpenSpec.ofChange Rows.meshComponentsSpec) :=
  OpenClaim.holds_of_wide 6 Tryz.f6 rfl rfl rfl rfl rfl rfl rfl ⟨rfl, rfl, rfl, rfl, rfl⟩ rfl rfl rfl rfl rfl (by kernel_rfl) Tryz.func6 (by kernel_rfl)
    (of_decide_eq_true (by kernel_rfl)) (by unfold Func.isWrapper; first | (rw [if_pos (by decide +kernel)]; kernel_rfl) | (rw [if_neg (by decide +kernel)]; exact ⟨rfl, rfl⟩))
    (fun os started H enc _ => lifted os started H enc)

theorem proved : Rows.MeshComponentsSaid := over
#print axioms proved
end Go.Proofs.YtmohcmghbfhdlaaGreat.MeshComponents
end
