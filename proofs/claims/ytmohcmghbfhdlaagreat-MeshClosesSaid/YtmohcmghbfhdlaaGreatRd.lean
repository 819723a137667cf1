/- Chapter 6: Differences and Closures (the program's). -/
import Derived.Test.YtmohcmghbfhdlaaGreatQd
import Derived.Test.YtmohcmghbfhdlaaGreatQs
import Derived.Test.YtmohcmghbfhdlaaGreatRa
import Derived.Test.YtmohcmghbfhdlaaGreatQe
import Derived.Test.YtmohcmghbfhdlaaGreatRc
import Derived.Test.YtmohcmghbfhdlaaGreatQz
section
set_option linter.unusedSimpArgs false
set_option linter.unusedVariables false
section
namespace Go.Proofs.YtmohcmghbfhdlaaGreat
open Go Go.RowKit Go.Ab Go.Me
set_option maxRecDepth 100000
set_option maxHeartbeats 4000000
attribute [local irreducible] OQ OW AL AW AF SW
theorem Differences_e0 (l : List Pn) (ts : List T3) (ph : List Int) (he : neE l ts ph ≠ 0) (hll : l.length ≤ 1000000) (hpl : ph.length ≤ 1000000) (c c2 c3 z z1 z2 : Nat) (hz : z = 0 ∨ z = 2) :
    PCalls Tryz.prog 24 [.agg #[.slice (some ⟨0, 0, none⟩) l.length c, .slice (some ⟨1, 0, none⟩) ts.length c2], .slice (some ⟨2, 0, none⟩) ph.length c3] [some ⟨flatP l, false, z⟩, some ⟨flatT ts, false, z1⟩, some ⟨flatN ph, false, z2⟩]
      (.tuple #[.slice none 0 0, .int .i64 (neE l ts ph)]) := by
  by_cases h1 : netE l ts ≠ 0
  · have h2 : neE l ts ph = netE l ts := if_pos h1
    rw [h2]
    have hop := fun (m : Mem) (hA : ArgN m 0 1 l ts) (F : Blk) (f1 : m.at 2 = some F) (f2 : F.cells = flatN ph) (f3 : F.obj = Ob.plain) => openPhases_e (c := c) (c2 := c2) (c3 := c3) l ts ph hA rfl rfl f1 f2 rfl hll h1 f3
    generalize netE l ts = E0 at *
    refine PCalls.en 18 Tryz.func24 rfl (ro3p _ _ _ rfl rfl rfl) rfl (fun E => ?_)
    repeat' (first | with_reducible (first | refine Then.n ?_ | refine Then.r ?_) | ((with_reducible refine AL.on ?_); first | ((first | ((with_reducible refine AL.k_assign ?_); (refine AL.q rfl (OQ.assign wl) ?_)) | ((with_reducible refine AL.k_move ?_); (refine AL.q rfl (OQ.move wl) ?_)) | ((with_reducible refine AL.k_extract ?_); refine AL.q rfl (OQ.extract rfl rfl) ?_) | ((with_reducible refine AL.k_load ?_); refine AL.q rfl (OQ.loadN (ty := 25) (n := 2) rfl kr kr rfl) ?_) | ((with_reducible refine AL.k_binOp ?_); refine AL.q rfl (OQ.neq rfl rfl) ?_)); (refine AL.nm ?_)) | ((refine AL.pcall (g := 65) rfl kr rfl ((by exact hop _ ⟨⟨_, rfl, rfl, hz, rfl⟩, ⟨_, rfl, rfl, rfl⟩, by decide⟩ _ rfl rfl rfl)) ?_); (refine AL.nm ?_)) | (((refine AL.w rfl (OW.box wl (by intro r h; cases h)) ?_)); (refine AL.nm ?_); (refine AL.nM ?_)) | refine AL.nil ?_) | ((with_reducible refine AW.on ?_); first | refine AW.seq ?_ | refine AW.ret ?_ | refine AW.region ?_ | (refine AW.conds rfl (fun hc => ?_) (fun hc => ?_) <;> (try replace hc := nc hc) <;> first | (exfalso; contradiction) | skip)) | ((with_reducible refine FinP.on ?_); (refine FinP.ret (.tmp wl (.tmp wl .nil)) ?_ rfl); (try simp only [pack, List.drop, List.take]); all_goals (rfl)))
  · have h1 : netE l ts = 0 := Classical.not_not.1 h1
    have hR := netE_0.1 h1
    have h2 : neE l ts ph = phE l ph := if_neg (fun h => h h1)
    rw [h2] at he ⊢
    have hop := fun (m : Mem) (hA : ArgN m 0 1 l ts) (F : Blk) (f1 : m.at 2 = some F) (f2 : F.cells = flatN ph) (f3 : F.obj = Ob.plain) => openPhases_y (c := c) (c2 := c2) (c3 := c3) l ts ph hA rfl rfl f1 f2 rfl hpl hR (by decide) f3
    generalize phE l ph = E0 at *
    refine PCalls.en 18 Tryz.func24 rfl (ro3p _ _ _ rfl rfl rfl) rfl (fun E => ?_)
    repeat' (first | with_reducible (first | refine Then.n ?_ | refine Then.r ?_) | ((with_reducible refine AL.on ?_); first | ((first | ((with_reducible refine AL.k_assign ?_); (refine AL.q rfl (OQ.assign wl) ?_)) | ((with_reducible refine AL.k_move ?_); (refine AL.q rfl (OQ.move wl) ?_)) | ((with_reducible refine AL.k_extract ?_); refine AL.q rfl (OQ.extract rfl rfl) ?_) | ((with_reducible refine AL.k_load ?_); refine AL.q rfl (OQ.loadN (ty := 25) (n := 2) rfl kr kr rfl) ?_) | ((with_reducible refine AL.k_binOp ?_); refine AL.q rfl (OQ.neq rfl rfl) ?_)); (refine AL.nm ?_)) | ((first | ((with_reducible refine AL.k_call ?_); refine AL.acall (g := 65) rfl kr rfl ((by exact hop _ ⟨⟨_, rfl, rfl, hz, rfl⟩, ⟨_, rfl, rfl, rfl⟩, by decide⟩ _ rfl rfl rfl)) ?_) | ((with_reducible refine AL.k_box ?_); (refine AL.w rfl (OW.box wl (by intro r h; cases h)) ?_))); (refine AL.nm ?_); (refine AL.nM ?_)) | refine AL.nil ?_) | ((with_reducible refine AW.on ?_); first | refine AW.seq ?_ | refine AW.ret ?_ | refine AW.region ?_ | (refine AW.conds rfl (fun hc => ?_) (fun hc => ?_) <;> (try replace hc := nc hc) <;> first | (exfalso; contradiction) | skip)) | ((with_reducible refine FinP.on ?_); (refine FinP.ret (.tmp wl (.tmp wl .nil)) ?_ rfl); (try simp only [pack, List.drop, List.take]); all_goals (rfl)))
theorem Differences_y0 (l : List Pn) (ts : List T3) (ph : List Int) (hR : NetR l ts) (hph : phE l ph = 0) (hpl : ph.length ≤ 1000000) (c c2 c3 z z1 z2 : Nat) (hz : z = 0 ∨ z = 2) :
    ACalls Tryz.prog 24 [.agg #[.slice (some ⟨0, 0, none⟩) l.length c, .slice (some ⟨1, 0, none⟩) ts.length c2], .slice (some ⟨2, 0, none⟩) ph.length c3] [some ⟨flatP l, false, z⟩, some ⟨flatT ts, false, z1⟩, some ⟨flatN ph, false, z2⟩]
      (.tuple #[.slice (some ⟨3, 0, none⟩) (edL ts).length INF, .int .i64 0]) [some ⟨flatP l, false, z⟩, some ⟨flatT ts, false, z1⟩, some ⟨flatN ph, false, z2⟩, some ⟨flatN (dfL ts ph), true, 1⟩] := by
  have hop := fun (m : Mem) (hA : ArgN m 0 1 l ts) (F : Blk) (f1 : m.at 2 = some F) (f2 : F.cells = flatN ph) (f3 : F.obj = Ob.plain) => openPhases_y (c := c) (c2 := c2) (c3 := c3) l ts ph hA rfl rfl f1 f2 rfl hpl hR (by decide) f3
  have hdi := fun (m : Mem) (h : OpenN m 4 5 6 0 1 c c2 l ts) (F : Blk) (f1 : m.at 2 = some F) (f2 : F.cells = flatN ph) (f3 : F.obj = Ob.plain) => differences_q (n := ph.length) (c3 := c3) h hR ph hph f1 f2 rfl (by decide) f3
  rw [hph] at hop
  refine ACalls.en 18 Tryz.func24 rfl rfl (fun E hE => ?_)
  repeat' (first | with_reducible (refine Then.n ?_) | ((with_reducible refine AL.on ?_); first | ((first | ((with_reducible refine AL.k_assign ?_); (refine AL.q rfl (OQ.assign wl) ?_)) | ((with_reducible refine AL.k_move ?_); (refine AL.q rfl (OQ.move wl) ?_)) | ((with_reducible refine AL.k_extract ?_); refine AL.q rfl (OQ.extract rfl rfl) ?_) | ((with_reducible refine AL.k_load ?_); refine AL.q rfl (OQ.loadN (ty := 25) (n := 2) rfl kr kr rfl) ?_) | ((with_reducible refine AL.k_binOp ?_); refine AL.q rfl (OQ.neq rfl rfl) ?_)); (refine AL.nm ?_)) | ((first | ((with_reducible refine AL.k_call ?_); first | refine AL.acall (g := 65) rfl kr rfl ((by exact hop _ ⟨⟨_, rfl, rfl, hz, rfl⟩, ⟨_, rfl, rfl, rfl⟩, by decide⟩ _ rfl rfl rfl)) ?_ | refine AL.acall (g := 67) rfl kr rfl ((by exact hdi _ ⟨⟨_, rfl, rfl, rfl⟩, ⟨_, rfl, rfl, rfl⟩, ⟨_, rfl, rfl, rfl⟩, ⟨_, rfl⟩, ⟨_, rfl, rfl, rfl⟩⟩ _ rfl rfl rfl)) ?_) | ((with_reducible refine AL.k_box ?_); (refine AL.w rfl (OW.box wl (by intro r h; cases h)) ?_))); (refine AL.nm ?_); (refine AL.nM ?_)) | refine AL.nil ?_) | ((with_reducible refine AW.on ?_); first | refine AW.seq ?_ | refine AW.skip ?_ | refine AW.ret ?_ | refine AW.region ?_ | (refine AW.conds rfl (fun hc => ?_) (fun hc => ?_) <;> (try replace hc := nc hc) <;> first | (exfalso; contradiction) | skip)) | ((with_reducible refine FinA.on ?_); (refine FinA.keep 3 [7] (.inl rfl) (.tmp wl (.tmp wl .nil)) ?_ rfl (Nat.le_of_eq hE) rfl rfl ⟨⟨_, rfl, rfl, rfl, .inl ⟨rfl, flatP_scal l⟩⟩, ⟨_, rfl, rfl, rfl, .inl ⟨rfl, flatT_scal ts⟩⟩, ⟨_, rfl, rfl, rfl, .inl ⟨rfl, flatN_scal _⟩⟩, ⟨_, rfl, rfl, rfl, .inl ⟨rfl, flatN_scal _⟩⟩, trivial⟩; rfl)))
theorem Differences_e {m : Mem} {bP bT bF n k j c c2 c3 : Nat} {F : Blk} (l : List Pn) (ts : List T3) (ph : List Int) (hA : ArgN m bP bT l ts) (hn : l.length = n) (hk : ts.length = k) (f1 : m.at bF = some F) (f2 : F.cells = flatN ph) (hj : ph.length = j) (he : neE l ts ph ≠ 0) (hll : l.length ≤ 1000000) (hpl : ph.length ≤ 1000000) (f3 : F.obj = Ob.plain := by rfl) :
    PCalls Tryz.prog 24 [.agg #[.slice (some ⟨bP, 0, none⟩) n c, .slice (some ⟨bT, 0, none⟩) k c2], .slice (some ⟨bF, 0, none⟩) j c3] m (.tuple #[.slice none 0 0, .int .i64 (neE l ts ph)]) := by
  subst hn hk hj
  obtain ⟨⟨A, h1, h2, h3, h4⟩, ⟨B, h5, h6, h7⟩, _⟩ := hA
  exact PCalls.viaS [bP, bT, bF] (Differences_e0 l ts ph he hll hpl c c2 c3 A.esz B.esz F.esz h3) (ro3p _ _ _ rfl rfl rfl) ⟨⟨_, h1, by unfold Blk.shp Blk.shpR; rw [h4]; rfl, (fun h => nomatch h), .inl ⟨h2, flatP_scal _⟩⟩, ⟨_, h5, by unfold Blk.shp Blk.shpR; rw [h7]; rfl, (fun h => nomatch h), .inl ⟨h6, flatT_scal _⟩⟩, ⟨_, f1, by unfold Blk.shp Blk.shpR; rw [f3]; rfl, (fun h => nomatch h), .inl ⟨f2, flatN_scal _⟩⟩, trivial⟩ rfl rfl rfl rfl
theorem Differences_y {m : Mem} {bP bT bF n k j c c2 c3 : Nat} {F : Blk} (l : List Pn) (ts : List T3) (ph : List Int) (hA : ArgN m bP bT l ts) (hn : l.length = n) (hk : ts.length = k) (f1 : m.at bF = some F) (f2 : F.cells = flatN ph) (hj : ph.length = j) (hR : NetR l ts) (hph : phE l ph = 0) (hpl : ph.length ≤ 1000000) (hd : [bP, bT, bF].Nodup) (f3 : F.obj = Ob.plain := by rfl) :
    ACalls Tryz.prog 24 [.agg #[.slice (some ⟨bP, 0, none⟩) n c, .slice (some ⟨bT, 0, none⟩) k c2], .slice (some ⟨bF, 0, none⟩) j c3] m (.tuple #[.slice (some ⟨m.length, 0, none⟩) (edL ts).length INF, .int .i64 0]) (m ++ [some ⟨flatN (dfL ts ph), true, 1⟩]) := by
  subst hn hk hj
  obtain ⟨⟨A, h1, h2, h3, h4⟩, ⟨B, h5, h6, h7⟩, _⟩ := hA
  have h := ACalls.viaS (m := m) (args := [.agg #[.slice (some ⟨bP, 0, none⟩) l.length c, .slice (some ⟨bT, 0, none⟩) ts.length c2], .slice (some ⟨bF, 0, none⟩) ph.length c3]) (v := .tuple #[.slice (some ⟨m.length, 0, none⟩) (edL ts).length INF, .int .i64 0]) [bP, bT, bF] [] [some ⟨flatN (dfL ts ph), true, 1⟩] (Differences_y0 l ts ph hR hph hpl c c2 c3 A.esz B.esz F.esz h3) ⟨⟨_, h1, by unfold Blk.shp Blk.shpR; rw [h4]; rfl, (fun h => nomatch h), .inl ⟨h2, flatP_scal _⟩⟩, ⟨_, h5, by unfold Blk.shp Blk.shpR; rw [h7]; rfl, (fun h => nomatch h), .inl ⟨h6, flatT_scal _⟩⟩, ⟨_, f1, by unfold Blk.shp Blk.shpR; rw [f3]; rfl, (fun h => nomatch h), .inl ⟨f2, flatN_scal _⟩⟩, trivial⟩ hd ⟨⟨_, rfl, rfl⟩, ⟨_, rfl, rfl⟩, ⟨_, rfl, rfl⟩, ⟨rfl, rfl, rfl, .inl ⟨rfl, flatN_scal _⟩⟩, trivial⟩ rfl rfl rfl rfl
  exact h
theorem Closures_e0 (l : List Pn) (ts : List T3) (ph : List Int) (he : neE l ts ph ≠ 0) (hll : l.length ≤ 1000000) (hpl : ph.length ≤ 1000000) (c c2 c3 z z1 z2 : Nat) (hz : z = 0 ∨ z = 2) :
    PCalls Tryz.prog 33 [.agg #[.slice (some ⟨0, 0, none⟩) l.length c, .slice (some ⟨1, 0, none⟩) ts.length c2], .slice (some ⟨2, 0, none⟩) ph.length c3] [some ⟨flatP l, false, z⟩, some ⟨flatT ts, false, z1⟩, some ⟨flatN ph, false, z2⟩]
      (.tuple #[.slice none 0 0, .int .i64 (neE l ts ph)]) := by
  by_cases h1 : netE l ts ≠ 0
  · have h2 : neE l ts ph = netE l ts := if_pos h1
    rw [h2]
    have hop := fun (m : Mem) (hA : ArgN m 0 1 l ts) (F : Blk) (f1 : m.at 2 = some F) (f2 : F.cells = flatN ph) (f3 : F.obj = Ob.plain) => openPhases_e (c := c) (c2 := c2) (c3 := c3) l ts ph hA rfl rfl f1 f2 rfl hll h1 f3
    generalize netE l ts = E0 at *
    refine PCalls.en 18 Tryz.func33 rfl (ro3p _ _ _ rfl rfl rfl) rfl (fun E => ?_)
    repeat' (first | with_reducible (first | refine Then.n ?_ | refine Then.r ?_) | ((with_reducible refine AL.on ?_); first | ((first | ((with_reducible refine AL.k_assign ?_); (refine AL.q rfl (OQ.assign wl) ?_)) | ((with_reducible refine AL.k_move ?_); (refine AL.q rfl (OQ.move wl) ?_)) | ((with_reducible refine AL.k_extract ?_); refine AL.q rfl (OQ.extract rfl rfl) ?_) | ((with_reducible refine AL.k_load ?_); refine AL.q rfl (OQ.loadN (ty := 25) (n := 2) rfl kr kr rfl) ?_) | ((with_reducible refine AL.k_binOp ?_); refine AL.q rfl (OQ.neq rfl rfl) ?_)); (refine AL.nm ?_)) | ((refine AL.pcall (g := 65) rfl kr rfl ((by exact hop _ ⟨⟨_, rfl, rfl, hz, rfl⟩, ⟨_, rfl, rfl, rfl⟩, by decide⟩ _ rfl rfl rfl)) ?_); (refine AL.nm ?_)) | (((refine AL.w rfl (OW.box wl (by intro r h; cases h)) ?_)); (refine AL.nm ?_); (refine AL.nM ?_)) | refine AL.nil ?_) | ((with_reducible refine AW.on ?_); first | refine AW.seq ?_ | refine AW.ret ?_ | refine AW.region ?_ | (refine AW.conds rfl (fun hc => ?_) (fun hc => ?_) <;> (try replace hc := nc hc) <;> first | (exfalso; contradiction) | skip)) | ((with_reducible refine FinP.on ?_); (refine FinP.ret (.tmp wl (.tmp wl .nil)) ?_ rfl); (try simp only [pack, List.drop, List.take]); all_goals (rfl)))
  · have h1 : netE l ts = 0 := Classical.not_not.1 h1
    have hR := netE_0.1 h1
    have h2 : neE l ts ph = phE l ph := if_neg (fun h => h h1)
    rw [h2] at he ⊢
    have hop := fun (m : Mem) (hA : ArgN m 0 1 l ts) (F : Blk) (f1 : m.at 2 = some F) (f2 : F.cells = flatN ph) (f3 : F.obj = Ob.plain) => openPhases_y (c := c) (c2 := c2) (c3 := c3) l ts ph hA rfl rfl f1 f2 rfl hpl hR (by decide) f3
    generalize phE l ph = E0 at *
    refine PCalls.en 18 Tryz.func33 rfl (ro3p _ _ _ rfl rfl rfl) rfl (fun E => ?_)
    repeat' (first | with_reducible (first | refine Then.n ?_ | refine Then.r ?_) | ((with_reducible refine AL.on ?_); first | ((first | ((with_reducible refine AL.k_assign ?_); (refine AL.q rfl (OQ.assign wl) ?_)) | ((with_reducible refine AL.k_move ?_); (refine AL.q rfl (OQ.move wl) ?_)) | ((with_reducible refine AL.k_extract ?_); refine AL.q rfl (OQ.extract rfl rfl) ?_) | ((with_reducible refine AL.k_load ?_); refine AL.q rfl (OQ.loadN (ty := 25) (n := 2) rfl kr kr rfl) ?_) | ((with_reducible refine AL.k_binOp ?_); refine AL.q rfl (OQ.neq rfl rfl) ?_)); (refine AL.nm ?_)) | ((first | ((with_reducible refine AL.k_call ?_); refine AL.acall (g := 65) rfl kr rfl ((by exact hop _ ⟨⟨_, rfl, rfl, hz, rfl⟩, ⟨_, rfl, rfl, rfl⟩, by decide⟩ _ rfl rfl rfl)) ?_) | ((with_reducible refine AL.k_box ?_); (refine AL.w rfl (OW.box wl (by intro r h; cases h)) ?_))); (refine AL.nm ?_); (refine AL.nM ?_)) | refine AL.nil ?_) | ((with_reducible refine AW.on ?_); first | refine AW.seq ?_ | refine AW.ret ?_ | refine AW.region ?_ | (refine AW.conds rfl (fun hc => ?_) (fun hc => ?_) <;> (try replace hc := nc hc) <;> first | (exfalso; contradiction) | skip)) | ((with_reducible refine FinP.on ?_); (refine FinP.ret (.tmp wl (.tmp wl .nil)) ?_ rfl); (try simp only [pack, List.drop, List.take]); all_goals (rfl)))
theorem Closures_y0 (l : List Pn) (ts : List T3) (ph : List Int) (hR : NetR l ts) (hph : phE l ph = 0) (hpl : ph.length ≤ 1000000) (c c2 c3 z z1 z2 : Nat) (hz : z = 0 ∨ z = 2) :
    ACalls Tryz.prog 33 [.agg #[.slice (some ⟨0, 0, none⟩) l.length c, .slice (some ⟨1, 0, none⟩) ts.length c2], .slice (some ⟨2, 0, none⟩) ph.length c3] [some ⟨flatP l, false, z⟩, some ⟨flatT ts, false, z1⟩, some ⟨flatN ph, false, z2⟩]
      (.tuple #[.slice (some ⟨3, 0, none⟩) ts.length ts.length, .int .i64 0]) [some ⟨flatP l, false, z⟩, some ⟨flatT ts, false, z1⟩, some ⟨flatN ph, false, z2⟩, some ⟨flatN (clL ts ph), true, 1⟩] := by
  have hop := fun (m : Mem) (hA : ArgN m 0 1 l ts) (F : Blk) (f1 : m.at 2 = some F) (f2 : F.cells = flatN ph) (f3 : F.obj = Ob.plain) => openPhases_y (c := c) (c2 := c2) (c3 := c3) l ts ph hA rfl rfl f1 f2 rfl hpl hR (by decide) f3
  have hdi := fun (m : Mem) (h : OpenN m 4 5 6 0 1 c c2 l ts) (F : Blk) (f1 : m.at 2 = some F) (f2 : F.cells = flatN ph) (f3 : F.obj = Ob.plain) => closures_q (n := ph.length) (c3 := c3) h hR ph hph f1 f2 rfl (by decide) f3
  rw [hph] at hop
  refine ACalls.en 18 Tryz.func33 rfl rfl (fun E hE => ?_)
  repeat' (first | with_reducible (refine Then.n ?_) | ((with_reducible refine AL.on ?_); first | ((first | ((with_reducible refine AL.k_assign ?_); (refine AL.q rfl (OQ.assign wl) ?_)) | ((with_reducible refine AL.k_move ?_); (refine AL.q rfl (OQ.move wl) ?_)) | ((with_reducible refine AL.k_extract ?_); refine AL.q rfl (OQ.extract rfl rfl) ?_) | ((with_reducible refine AL.k_load ?_); refine AL.q rfl (OQ.loadN (ty := 25) (n := 2) rfl kr kr rfl) ?_) | ((with_reducible refine AL.k_binOp ?_); refine AL.q rfl (OQ.neq rfl rfl) ?_)); (refine AL.nm ?_)) | ((first | ((with_reducible refine AL.k_call ?_); first | refine AL.acall (g := 65) rfl kr rfl ((by exact hop _ ⟨⟨_, rfl, rfl, hz, rfl⟩, ⟨_, rfl, rfl, rfl⟩, by decide⟩ _ rfl rfl rfl)) ?_ | refine AL.acall (g := 79) rfl kr rfl ((by exact hdi _ ⟨⟨_, rfl, rfl, rfl⟩, ⟨_, rfl, rfl, rfl⟩, ⟨_, rfl, rfl, rfl⟩, ⟨_, rfl⟩, ⟨_, rfl, rfl, rfl⟩⟩ _ rfl rfl rfl)) ?_) | ((with_reducible refine AL.k_box ?_); (refine AL.w rfl (OW.box wl (by intro r h; cases h)) ?_))); (refine AL.nm ?_); (refine AL.nM ?_)) | refine AL.nil ?_) | ((with_reducible refine AW.on ?_); first | refine AW.seq ?_ | refine AW.skip ?_ | refine AW.ret ?_ | refine AW.region ?_ | (refine AW.conds rfl (fun hc => ?_) (fun hc => ?_) <;> (try replace hc := nc hc) <;> first | (exfalso; contradiction) | skip)) | ((with_reducible refine FinA.on ?_); (refine FinA.keep 3 [7] (.inl rfl) (.tmp wl (.tmp wl .nil)) ?_ rfl (Nat.le_of_eq hE) rfl rfl ⟨⟨_, rfl, rfl, rfl, .inl ⟨rfl, flatP_scal l⟩⟩, ⟨_, rfl, rfl, rfl, .inl ⟨rfl, flatT_scal ts⟩⟩, ⟨_, rfl, rfl, rfl, .inl ⟨rfl, flatN_scal _⟩⟩, ⟨_, rfl, rfl, rfl, .inl ⟨rfl, flatN_scal _⟩⟩, trivial⟩; rfl)))
theorem Closures_e {m : Mem} {bP bT bF n k j c c2 c3 : Nat} {F : Blk} (l : List Pn) (ts : List T3) (ph : List Int) (hA : ArgN m bP bT l ts) (hn : l.length = n) (hk : ts.length = k) (f1 : m.at bF = some F) (f2 : F.cells = flatN ph) (hj : ph.length = j) (he : neE l ts ph ≠ 0) (hll : l.length ≤ 1000000) (hpl : ph.length ≤ 1000000) (f3 : F.obj = Ob.plain := by rfl) :
    PCalls Tryz.prog 33 [.agg #[.slice (some ⟨bP, 0, none⟩) n c, .slice (some ⟨bT, 0, none⟩) k c2], .slice (some ⟨bF, 0, none⟩) j c3] m (.tuple #[.slice none 0 0, .int .i64 (neE l ts ph)]) := by
  subst hn hk hj
  obtain ⟨⟨A, h1, h2, h3, h4⟩, ⟨B, h5, h6, h7⟩, _⟩ := hA
  exact PCalls.viaS [bP, bT, bF] (Closures_e0 l ts ph he hll hpl c c2 c3 A.esz B.esz F.esz h3) (ro3p _ _ _ rfl rfl rfl) ⟨⟨_, h1, by unfold Blk.shp Blk.shpR; rw [h4]; rfl, (fun h => nomatch h), .inl ⟨h2, flatP_scal _⟩⟩, ⟨_, h5, by unfold Blk.shp Blk.shpR; rw [h7]; rfl, (fun h => nomatch h), .inl ⟨h6, flatT_scal _⟩⟩, ⟨_, f1, by unfold Blk.shp Blk.shpR; rw [f3]; rfl, (fun h => nomatch h), .inl ⟨f2, flatN_scal _⟩⟩, trivial⟩ rfl rfl rfl rfl
theorem Closures_y {m : Mem} {bP bT bF n k j c c2 c3 : Nat} {F : Blk} (l : List Pn) (ts : List T3) (ph : List Int) (hA : ArgN m bP bT l ts) (hn : l.length = n) (hk : ts.length = k) (f1 : m.at bF = some F) (f2 : F.cells = flatN ph) (hj : ph.length = j) (hR : NetR l ts) (hph : phE l ph = 0) (hpl : ph.length ≤ 1000000) (hd : [bP, bT, bF].Nodup) (f3 : F.obj = Ob.plain := by rfl) :
    ACalls Tryz.prog 33 [.agg #[.slice (some ⟨bP, 0, none⟩) n c, .slice (some ⟨bT, 0, none⟩) k c2], .slice (some ⟨bF, 0, none⟩) j c3] m (.tuple #[.slice (some ⟨m.length, 0, none⟩) ts.length ts.length, .int .i64 0]) (m ++ [some ⟨flatN (clL ts ph), true, 1⟩]) := by
  subst hn hk hj
  obtain ⟨⟨A, h1, h2, h3, h4⟩, ⟨B, h5, h6, h7⟩, _⟩ := hA
  have h := ACalls.viaS (m := m) (args := [.agg #[.slice (some ⟨bP, 0, none⟩) l.length c, .slice (some ⟨bT, 0, none⟩) ts.length c2], .slice (some ⟨bF, 0, none⟩) ph.length c3]) (v := .tuple #[.slice (some ⟨m.length, 0, none⟩) ts.length ts.length, .int .i64 0]) [bP, bT, bF] [] [some ⟨flatN (clL ts ph), true, 1⟩] (Closures_y0 l ts ph hR hph hpl c c2 c3 A.esz B.esz F.esz h3) ⟨⟨_, h1, by unfold Blk.shp Blk.shpR; rw [h4]; rfl, (fun h => nomatch h), .inl ⟨h2, flatP_scal _⟩⟩, ⟨_, h5, by unfold Blk.shp Blk.shpR; rw [h7]; rfl, (fun h => nomatch h), .inl ⟨h6, flatT_scal _⟩⟩, ⟨_, f1, by unfold Blk.shp Blk.shpR; rw [f3]; rfl, (fun h => nomatch h), .inl ⟨f2, flatN_scal _⟩⟩, trivial⟩ hd ⟨⟨_, rfl, rfl⟩, ⟨_, rfl, rfl⟩, ⟨_, rfl, rfl⟩, ⟨rfl, rfl, rfl, .inl ⟨rfl, flatN_scal _⟩⟩, trivial⟩ rfl rfl rfl rfl
  exact h
end Go.Proofs.YtmohcmghbfhdlaaGreat
end
end
/- Chapter 6 in plain Lean: nets: sums over directed edges; what is left is the border; a border goes round the hull a whole number of times. -/
section
set_option linter.unusedSimpArgs false
set_option linter.unusedVariables false
namespace Go.Me
def su {α : Type} (l : List α) (f : α → Int) : Int := (l.map f).sum
section
variable {α β : Type}
theorem su_nil (f : α → Int) : su [] f = 0 := rfl
theorem su_cons (a : α) (l : List α) (f : α → Int) : su (a :: l) f = f a + su l f := rfl
theorem su_app (l k : List α) (f : α → Int) : su (l ++ k) f = su l f + su k f := by
  induction l with
  | nil => rw [List.nil_append, su_nil]; omega
  | cons a l ih => rw [List.cons_append, su_cons, su_cons, ih]; omega
theorem su_add (l : List α) (f g : α → Int) : su l (fun a => f a + g a) = su l f + su l g := by
  induction l with
  | nil => rfl
  | cons a l ih => rw [su_cons, su_cons, su_cons, ih]; omega
theorem su_sub (l : List α) (f g : α → Int) : su l (fun a => f a - g a) = su l f - su l g := by
  induction l with
  | nil => rfl
  | cons a l ih => rw [su_cons, su_cons, su_cons, ih]; omega
theorem su_mul (c : Int) (l : List α) (f : α → Int) : su l (fun a => c * f a) = c * su l f := by
  induction l with
  | nil => simp [su_nil]
  | cons a l ih => rw [su_cons, su_cons, ih, Int.mul_add]
theorem su_zero (l : List α) : su l (fun _ => 0) = 0 := by
  induction l with
  | nil => rfl
  | cons a l ih => rw [su_cons, ih]; rfl
theorem su_congr {l : List α} {f g : α → Int} (h : ∀ a ∈ l, f a = g a) : su l f = su l g := by
  unfold su
  rw [List.map_congr_left h]
end
abbrev Ed := Nat × Nat
def sw (e : Ed) : Ed := (e.2, e.1)
def bd (l : List Ed) : List Ed := l.filter fun e => !l.contains (sw e)
end Go.Me
end
/- Chapter 6: all closures together (plain). -/
section
set_option linter.unusedSimpArgs false
set_option linter.unusedVariables false
namespace Go.Me
open Go.Ab Go.Proofs.YtmohcmghbfhdlaaGreat
set_option maxRecDepth 100000
theorem lk_at {e : IE} {v : Int} : ∀ {L : List (IE × Int)}, (L.map (·.1)).Nodup → (e, v) ∈ L → lk L e = v
  | [], _, h => by cases h
  | p :: r, hn, hm => by
    rw [List.map_cons, List.nodup_cons] at hn
    rw [lk_cons]
    by_cases he : p.1 = e
    · rw [if_pos he]
      rcases List.mem_cons.1 hm with rfl | hm
      · rfl
      · exact absurd (he ▸ List.mem_map_of_mem (f := (·.1)) hm) hn.1
    · rw [if_neg he]
      rcases List.mem_cons.1 hm with rfl | hm
      · exact absurd rfl he
      · exact lk_at hn.2 hm
theorem lk_tri {l : List Pn} {ts : List T3} (h : NetR l ts) {e : IE} {i : Nat} (hi : i < ts.length) : lk (lfA ts) e = i ↔ isE (tr ts i) e := by
  constructor
  · intro h1
    have h2 : e ∈ (lfA ts).map (·.1) := Classical.not_not.1 fun h2 => by
      have := (lk_no h).2 h2
      omega
    obtain ⟨j, h3, h4, h5⟩ := (lf_tri _).1 (lk_mem h2)
    obtain rfl : j = i := by
      have : ((j : Nat) : Int) = i := h4.symm.trans h1
      omega
    exact h5
  · intro h1
    exact lk_at h.ok.nd ((lf_tri _).2 ⟨i, hi, rfl, h1⟩)
theorem suOne {α : Type} [DecidableEq α] (a : α) (c : Int) : ∀ {L : List α}, L.Nodup → su L (fun x => if x = a then c else 0) = if a ∈ L then c else 0
  | [], _ => rfl
  | b :: L, hn => by
    rw [List.nodup_cons] at hn
    rw [su_cons, suOne a c hn.2]
    by_cases h : b = a
    · subst h
      rw [if_pos rfl, if_neg hn.1, if_pos List.mem_cons_self]
      omega
    · rw [if_neg h]
      by_cases h2 : a ∈ L
      · rw [if_pos h2, if_pos (List.mem_cons_of_mem _ h2)]
        omega
      · rw [if_neg h2, if_neg (fun h3 => (List.mem_cons.1 h3).elim (fun h4 => h h4.symm) h2)]
        omega
theorem suDvd {α : Type} {f g : α → Int} (h : ∀ x, (4096 : Int) ∣ f x - g x) : ∀ L : List α, (4096 : Int) ∣ su L f - su L g
  | [] => ⟨0, rfl⟩
  | a :: L => by
    have h1 := h a
    have h2 := suDvd h L
    rw [su_cons, su_cons]
    omega
def dD (ph : List Int) (p q : Int) : Int := nt ph q.toNat - nt ph p.toNat
theorem ed_one {l : List Pn} {ts : List T3} (h : NetR l ts) {p q : Int} (hne : p ≠ q) (hk : lk (lfA ts) (p, q) ≠ -1) (d : Int) : (if (⟨p, q⟩ : Pn) ∈ edL ts then d else 0) + (if (⟨q, p⟩ : Pn) ∈ edL ts then d else 0) = d := by
  rcases Int.lt_or_gt_of_ne hne with h1 | h1
  · rw [if_pos ((edL_mem h).2 ⟨h1, .inl hk⟩), if_neg (fun h2 => by have := ((edL_mem h).1 h2).1; simp only at this; omega)]
    omega
  · rw [if_neg (fun h2 => by have := ((edL_mem h).1 h2).1; simp only at this; omega), if_pos ((edL_mem h).2 ⟨h1, .inr hk⟩)]
    omega
theorem tri_zero {l : List Pn} {ts : List T3} (h : NetR l ts) (ph : List Int) {i : Nat} (hi : i < ts.length) :
    su (edL ts) (fun x => (if lk (lfA ts) (x.x, x.y) = i then dD ph x.x x.y else 0) - (if lk (lfA ts) (x.y, x.x) = i then dD ph x.x x.y else 0)) = 0 := by
  have hT := fun (e : IE) => lk_tri h (e := e) hi
  generalize htr : tr ts i = t at hT
  obtain ⟨a, b, c⟩ := t
  have e1 : lk (lfA ts) (a, b) = i := (hT _).2 (.inl rfl)
  have e2 : lk (lfA ts) (b, c) = i := (hT _).2 (.inr (.inl rfl))
  have e3 : lk (lfA ts) (c, a) = i := (hT _).2 (.inr (.inr rfl))
  have hne : ∀ p q : Int, lk (lfA ts) (p, q) = i → p ≠ q := fun p q h1 => by
    have h2 : (p, q) ∈ (lfA ts).map (·.1) := Classical.not_not.1 fun h2 => by
      have := (lk_no h).2 h2
      omega
    exact lf_ne h (lk_mem h2)
  have n1 := hne _ _ e1
  have n2 := hne _ _ e2
  have n3 := hne _ _ e3
  have key : ∀ x ∈ edL ts, (if lk (lfA ts) (x.x, x.y) = i then dD ph x.x x.y else 0) - (if lk (lfA ts) (x.y, x.x) = i then dD ph x.x x.y else 0)
      = (((if x = ⟨a, b⟩ then dD ph a b else 0) + (if x = ⟨b, a⟩ then dD ph a b else 0)) + ((if x = ⟨b, c⟩ then dD ph b c else 0) + (if x = ⟨c, b⟩ then dD ph b c else 0))) + ((if x = ⟨c, a⟩ then dD ph c a else 0) + (if x = ⟨a, c⟩ then dD ph c a else 0)) := fun x _ => by
    obtain ⟨x, y⟩ := x
    simp only [hT, isE, Prod.mk.injEq, Pn.mk.injEq]
    by_cases c1 : x = a ∧ y = b
    · obtain ⟨rfl, rfl⟩ := c1
      simp [n1, n2, n3, Ne.symm n1, Ne.symm n2, Ne.symm n3]
    by_cases c2 : x = b ∧ y = a
    · obtain ⟨rfl, rfl⟩ := c2
      simp [n1, n2, n3, Ne.symm n1, Ne.symm n2, Ne.symm n3]
      unfold dD; omega
    by_cases c3 : x = b ∧ y = c
    · obtain ⟨rfl, rfl⟩ := c3
      simp [n1, n2, n3, Ne.symm n1, Ne.symm n2, Ne.symm n3]
    by_cases c4 : x = c ∧ y = b
    · obtain ⟨rfl, rfl⟩ := c4
      simp [n1, n2, n3, Ne.symm n1, Ne.symm n2, Ne.symm n3]
      unfold dD; omega
    by_cases c5 : x = c ∧ y = a
    · obtain ⟨rfl, rfl⟩ := c5
      simp [n1, n2, n3, Ne.symm n1, Ne.symm n2, Ne.symm n3]
    by_cases c6 : x = a ∧ y = c
    · obtain ⟨rfl, rfl⟩ := c6
      simp [n1, n2, n3, Ne.symm n1, Ne.symm n2, Ne.symm n3]
      unfold dD; omega
    rw [if_neg c1, if_neg c2, if_neg c3, if_neg c4, if_neg c5, if_neg c6, if_neg (by omega), if_neg (by omega)]
    rfl
  have hn := edL_nodup h
  rw [su_congr key, su_add, su_add, su_add, su_add, su_add, suOne _ _ hn, suOne _ _ hn, suOne _ _ hn, suOne _ _ hn, suOne _ _ hn, suOne _ _ hn, ed_one h n1 (by omega), ed_one h n2 (by omega), ed_one h n3 (by omega)]
  unfold dD
  omega
theorem takeP {s : List Pn} {k : Nat} (h : k < s.length) : s.take (k + 1) = s.take k ++ [pt s k] := by
  rw [List.take_add_one, List.getElem?_eq_getElem h]
  unfold pt
  rw [List.getD_eq_getElem?_getD, List.getElem?_eq_getElem h]
  rfl
theorem arK_su {ts : List T3} {ph : List Int} {i : Nat} : ∀ k, k ≤ (edL ts).length → arK ts (dfL ts ph) i k = su ((edL ts).take k) fun x => (if lk (lfA ts) (x.x, x.y) = i then dfP ph x else 0) - (if lk (lfA ts) (x.y, x.x) = i then dfP ph x else 0)
  | 0, _ => rfl
  | k + 1, hk => by
    rw [takeP (by omega), su_app, ← arK_su k (by omega), su_cons, su_nil, arK, sdL_pt (by omega), dfL_nt (by omega)]
    simp only [sdP]
    omega
theorem arK_dvd {l : List Pn} {ts : List T3} (h : NetR l ts) (ph : List Int) {i : Nat} (hi : i < ts.length) : (4096 : Int) ∣ arK ts (dfL ts ph) i (edL ts).length := by
  rw [arK_su _ (Nat.le_refl _), List.take_length]
  have h1 := tri_zero h ph hi
  have h2 := suDvd (f := fun x : Pn => (if lk (lfA ts) (x.x, x.y) = i then dfP ph x else 0) - (if lk (lfA ts) (x.y, x.x) = i then dfP ph x else 0)) (g := fun x => (if lk (lfA ts) (x.x, x.y) = i then dD ph x.x x.y else 0) - (if lk (lfA ts) (x.y, x.x) = i then dD ph x.x x.y else 0)) (fun x => by
    have h3 : (4096 : Int) ∣ dfP ph x - dD ph x.x x.y := by
      unfold dfP dD
      rw [wrI_e]
      omega
    split <;> split <;> omega) (edL ts)
  rw [h1] at h2
  omega
def brK (ts : List T3) (xs : List Int) : Nat → Int
  | 0 => 0
  | k + 1 => brK ts xs k + (if (pt (sdL ts) k).y = -1 then nt xs k else 0) - (if (pt (sdL ts) k).x = -1 then nt xs k else 0)
def scK (xs : List Int) : Nat → Int
  | 0 => 0
  | k + 1 => scK xs k + nt xs k
theorem scK_su (xs : List Int) : ∀ k, scK xs k = su (List.range k) fun i => nt xs i
  | 0 => rfl
  | k + 1 => by
    rw [List.range_succ, su_app, ← scK_su xs k, su_cons, su_nil, scK]
    omega
theorem suIx {a v : Int} {n : Nat} (h1 : -1 ≤ a) (h2 : a < n) : su (List.range n) (fun i => if a = ((i : Nat) : Int) then v else 0) = if a = -1 then 0 else v := by
  by_cases h : a = -1
  · rw [if_pos h, su_congr (g := fun _ => 0) (fun i _ => if_neg (by omega)), su_zero]
  · obtain ⟨k, rfl⟩ : ∃ k : Nat, a = k := ⟨a.toNat, by omega⟩
    rw [if_neg h, su_congr (g := fun i => if i = k then v else 0) (fun i _ => by
      by_cases h3 : i = k
      · rw [if_pos h3, if_pos (by omega)]
      · rw [if_neg h3, if_neg (by omega)]), suOne _ _ List.nodup_range, if_pos (List.mem_range.2 (by omega))]
theorem sum_brK (ts : List T3) (xs : List Int) : ∀ k, k ≤ (edL ts).length → su (List.range ts.length) (fun i => arK ts xs i k) = brK ts xs k
  | 0, _ => su_zero _
  | k + 1, hk => by
    have h1 := lk_rng ts ((pt (edL ts) k).x, (pt (edL ts) k).y)
    have h2 := lk_rng ts ((pt (edL ts) k).y, (pt (edL ts) k).x)
    have e : su (List.range ts.length) (fun i => arK ts xs i (k + 1)) = su (List.range ts.length) (fun (i : Nat) => arK ts xs (i : Int) k + (if (pt (sdL ts) k).x = ((i : Nat) : Int) then nt xs k else 0) - (if (pt (sdL ts) k).y = ((i : Nat) : Int) then nt xs k else 0)) := rfl
    rw [e, su_sub, su_add, sum_brK ts xs k (by omega), brK, sdL_pt (by omega)]
    rw [suIx (a := (sdP ts (pt (edL ts) k)).x) h1.1 h1.2, suIx (a := (sdP ts (pt (edL ts) k)).y) h2.1 h2.2]
    split <;> split <;> omega
theorem cl_all {l : List Pn} {ts : List T3} (h : NetR l ts) (ph : List Int) : 4096 * scK (clL ts ph) ts.length = brK ts (dfL ts ph) (edL ts).length := by
  rw [scK_su, ← su_mul, ← sum_brK ts _ _ (Nat.le_refl _)]
  refine su_congr fun i hi => ?_
  have hi := List.mem_range.1 hi
  rw [← arK_cl hi]
  exact Int.mul_tdiv_cancel' (arK_dvd h ph hi)
theorem brK_bd (ts : List T3) (ph : List Int) : ∀ k, k ≤ (edL ts).length → -(4096 * (k : Int)) ≤ brK ts (dfL ts ph) k ∧ brK ts (dfL ts ph) k ≤ 4096 * (k : Int)
  | 0, _ => by unfold brK; omega
  | k + 1, hk => by
    have h1 := brK_bd ts ph k (by omega)
    have h2 := dfL_bd ts ph k (by rw [dfL_len]; omega)
    unfold brK
    split <;> split <;> omega
theorem cl_bd {l : List Pn} {ts : List T3} (h : NetR l ts) (ph : List Int) {i : Nat} (hi : i < ts.length) : -1000000000000 ≤ nt (clL ts ph) i ∧ nt (clL ts ph) i ≤ 1000000000000 := by
  have h1 := arK_bd (ts := ts) (xs := dfL ts ph) (i := i) (fun k hk => by have := dfL_bd ts ph k hk; omega) (dfL ts ph).length (Nat.le_refl _)
  rw [dfL_len] at h1
  have h2 := edL_le ts
  have h3 := h.le
  obtain ⟨c, hc⟩ := arK_dvd h ph hi
  rw [← arK_cl hi, hc, Int.mul_tdiv_cancel_left _ (by decide)]
  omega
theorem scK_bd {l : List Pn} {ts : List T3} (h : NetR l ts) (ph : List Int) : ∀ k, k ≤ ts.length → -(1000000000000 * (k : Int)) ≤ scK (clL ts ph) k ∧ scK (clL ts ph) k ≤ 1000000000000 * (k : Int)
  | 0, _ => by unfold scK; omega
  | k + 1, hk => by
    have h1 := scK_bd h ph k (by omega)
    have h2 := cl_bd h ph (i := k) (by omega)
    unfold scK
    omega
end Go.Me
end
