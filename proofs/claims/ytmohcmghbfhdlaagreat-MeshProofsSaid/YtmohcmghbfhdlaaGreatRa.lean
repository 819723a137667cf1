/- Chapter 6: which tasks, turns and potentials are right (the program's). -/
import Derived.Test.YtmohcmghbfhdlaaGreatQd
import Derived.Test.YtmohcmghbfhdlaaGreatQz
import Derived.Test.YtmohcmghbfhdlaaGreatQu
import Derived.Test.YtmohcmghbfhdlaaGreatQh
import Derived.WideKeyEntry
import Derived.Test.YtmohcmghbfhdlaaGreatQe
section
set_option linter.unusedSimpArgs false
set_option linter.unusedVariables false
section
namespace Go.Me
open Go.Ab Go.Proofs.YtmohcmghbfhdlaaGreat
theorem po_in {ps : List Int} {i : Int} (h : i ≠ -1) : po ps i = nt ps i.toNat := if_neg h
def ctI (ts : List T3) (ph cs xs : List Int) : Int := if tuE ts ph xs ≠ 0 then tuI ts ph xs else coL cs xs (edL ts).length
def cpI (ts : List T3) (ph cs ps : List Int) : Int := if poE ts cs ps ≠ 0 then 0 else bnK (clL ts ph) ps ts.length
theorem tuE_0 {ts : List T3} {ph xs : List Int} (h : tuE ts ph xs = 0) : tuR ts xs = 0 := by
 rw [tuE_R] at h
 by_cases h1 : tuR ts xs ≠ 0
 ·rw [if_pos h1] at h; exact h
 ·exact Classical.not_not.1 h1
end Go.Me
namespace Go.Proofs.YtmohcmghbfhdlaaGreat
open Go Go.RowKit Go.Ab Go.Me
set_option maxRecDepth 100000
set_option maxHeartbeats 4000000
attribute [local irreducible] OQ OW AL AW AF SW
theorem openTask_e {m : Mem} {bP bT bF bC n k j i c c2 c3 c4 : Nat} {F C : Blk} (l : List Pn) (ts : List T3) (ph cs : List Int) (hA : ArgN m bP bT l ts) (hn : l.length = n) (hk : ts.length = k) (f1 : m.at bF = some F) (f2 : F.cells = flatN ph) (hj : ph.length = j) (c1 : m.at bC = some C) (c2' : C.cells = flatN cs) (hi : cs.length = i) (he : tkE l ts ph cs ≠ 0) (hll : l.length ≤ 1000000) (hpl : ph.length ≤ 1000000) (hcl : cs.length ≤ 1000000) (f3 : F.obj = Ob.plain := by rfl) (c3' : C.obj = Ob.plain := by rfl) :
  PCalls Tryz.prog 85 [.agg #[.slice (some ⟨bP, 0, none⟩) n c, .slice (some ⟨bT, 0, none⟩) k c2, .slice (some ⟨bF, 0, none⟩) j c3, .slice (some ⟨bC, 0, none⟩) i c4]] m (.tuple #[.pointer none, .int .i64 (tkE l ts ph cs)]) := by
 subst hn hk hj hi
 obtain ⟨⟨A, a1, a2, h3, a3⟩, ⟨B, b1, b2, b3⟩, _⟩ := hA
 exact PCalls.viaS [bP, bT, bF, bC] (openTask_e0 l ts ph cs he hll hpl hcl c c2 c3 c4 A.esz B.esz F.esz C.esz h3) (ro4p _ _ _ _ rfl rfl rfl rfl)
  ⟨bS a1 a3 a2 (flatP_scal _), bS b1 b3 b2 (flatT_scal _), bS f1 f3 f2 (flatN_scal _), bS c1 c3' c2' (flatN_scal _), trivial⟩ rfl rfl rfl rfl
structure ArgT (m : Mem) (bP bT bF bC : Nat) (l : List Pn) (ts : List T3) (ph cs : List Int) : Prop where
 net : ArgN m bP bT l ts
 F : ∃ F : Blk, m.at bF = some F ∧ F.cells = flatN ph ∧ F.obj = Ob.plain
 C : ∃ C : Blk, m.at bC = some C ∧ C.cells = flatN cs ∧ C.obj = Ob.plain
theorem CheckTask_0 (l : List Pn) (ts : List T3) (ph cs : List Int) (hll : l.length ≤ 1000000) (hpl : ph.length ≤ 1000000) (hcl : cs.length ≤ 1000000) (c c2 c3 c4 z z1 z2 z3 : Nat) (hz : z = 0 ∨ z = 2) :
  PCalls Tryz.prog 45 [.agg #[.slice (some ⟨0, 0, none⟩) l.length c, .slice (some ⟨1, 0, none⟩) ts.length c2, .slice (some ⟨2, 0, none⟩) ph.length c3, .slice (some ⟨3, 0, none⟩) cs.length c4]] [some ⟨flatP l, false, z⟩, some ⟨flatT ts, false, z1⟩, some ⟨flatN ph, false, z2⟩, some ⟨flatN cs, false, z3⟩] (.int .i64 (tkE l ts ph cs)) := by
 by_cases he : tkE l ts ph cs = 0
 ·have hT := tkE_0.1 he
  have hop := fun (m : Mem) (hA : ArgN m 0 1 l ts) (F C : Blk) (f1 : m.at 2 = some F) (f2 : F.cells = flatN ph) (f3 : F.obj = Ob.plain) (d1 : m.at 3 = some C) (d2 : C.cells = flatN cs) (d3 : C.obj = Ob.plain) => openTask_q (c := c) (c2 := c2) (c3 := c3) (c4 := c4) l ts ph cs hA rfl rfl f1 f2 rfl d1 d2 rfl hT (by decide) f3 d3
  rw [he]
  refine PCalls.en 10 Tryz.func45 rfl (ro4p _ _ _ _ rfl rfl rfl rfl) rfl (fun E => ?_)
  repeat' (first | with_reducible (refine Then.n ?_) | ((with_reducible refine AL.on ?_); first | ((first | refine AL.as ?_ | refine AL.mv ?_ | refine AL.et ?_ | ((with_reducible refine AL.k_load ?_); refine AL.g (OQ.loadN (ty := 67) (n := 4) rfl kr kr rfl) ?_)); refine AL.nm ?_) | ((first | refine AL.bx ?_ | ((with_reducible refine AL.k_call ?_); refine AL.acall (g := 85) rfl kr rfl ((by exact hop _ ⟨⟨_, rfl, rfl, hz, rfl⟩, ⟨_, rfl, rfl, rfl⟩, by decide⟩ _ _ rfl rfl rfl rfl rfl rfl)) ?_)); refine AL.nm ?_; refine AL.nM ?_) | refine AL.nil ?_) | ((with_reducible refine AW.on ?_); first | refine AW.seq ?_ | refine AW.ret ?_ | refine AW.region ?_) | ((with_reducible refine FinP.on ?_); (refine FinP.ret (.tmp wl .nil) ?_ rfl); (try simp only [pack, List.drop, List.take]); all_goals (rfl)))
 ·have hop := fun (m : Mem) (hA : ArgN m 0 1 l ts) (F C : Blk) (f1 : m.at 2 = some F) (f2 : F.cells = flatN ph) (f3 : F.obj = Ob.plain) (d1 : m.at 3 = some C) (d2 : C.cells = flatN cs) (d3 : C.obj = Ob.plain) => openTask_e (c := c) (c2 := c2) (c3 := c3) (c4 := c4) l ts ph cs hA rfl rfl f1 f2 rfl d1 d2 rfl he hll hpl hcl f3 d3
  generalize tkE l ts ph cs = E0 at *
  refine PCalls.en 10 Tryz.func45 rfl (ro4p _ _ _ _ rfl rfl rfl rfl) rfl (fun E => ?_)
  repeat' (first | with_reducible (refine Then.n ?_) | ((with_reducible refine AL.on ?_); first | ((first | refine AL.as ?_ | refine AL.mv ?_ | refine AL.et ?_ | ((with_reducible refine AL.k_load ?_); refine AL.g (OQ.loadN (ty := 67) (n := 4) rfl kr kr rfl) ?_)); refine AL.nm ?_) | ((refine AL.pcall (g := 85) rfl kr rfl ((by exact hop _ ⟨⟨_, rfl, rfl, hz, rfl⟩, ⟨_, rfl, rfl, rfl⟩, by decide⟩ _ _ rfl rfl rfl rfl rfl rfl)) ?_); refine AL.nm ?_) | ((refine AL.bx ?_); refine AL.nm ?_; refine AL.nM ?_) | refine AL.nil ?_) | ((with_reducible refine AW.on ?_); first | refine AW.seq ?_ | refine AW.ret ?_ | refine AW.region ?_) | ((with_reducible refine FinP.on ?_); (refine FinP.ret (.tmp wl .nil) ?_ rfl); (try simp only [pack, List.drop, List.take]); all_goals (rfl)))
theorem CheckTask_q {m : Mem} {bP bT bF bC n k j i c c2 c3 c4 : Nat} (l : List Pn) (ts : List T3) (ph cs : List Int) (hA : ArgT m bP bT bF bC l ts ph cs) (hn : l.length = n) (hk : ts.length = k) (hj : ph.length = j) (hi : cs.length = i) (hll : l.length ≤ 1000000) (hpl : ph.length ≤ 1000000) (hcl : cs.length ≤ 1000000) :
  PCalls Tryz.prog 45 [.agg #[.slice (some ⟨bP, 0, none⟩) n c, .slice (some ⟨bT, 0, none⟩) k c2, .slice (some ⟨bF, 0, none⟩) j c3, .slice (some ⟨bC, 0, none⟩) i c4]] m (.int .i64 (tkE l ts ph cs)) := by
 subst hn hk hj hi
 obtain ⟨⟨⟨A, a1, a2, h3, a3⟩, ⟨B, b1, b2, b3⟩, _⟩, ⟨F, f1, f2, f3⟩, ⟨C, c1, c2', c3'⟩⟩ := hA
 exact PCalls.viaS [bP, bT, bF, bC] (CheckTask_0 l ts ph cs hll hpl hcl c c2 c3 c4 A.esz B.esz F.esz C.esz h3) (ro4p _ _ _ _ rfl rfl rfl rfl)
  ⟨bS a1 a3 a2 (flatP_scal _), bS b1 b3 b2 (flatT_scal _), bS f1 f3 f2 (flatN_scal _), bS c1 c3' c2' (flatN_scal _), trivial⟩ rfl rfl rfl rfl
theorem CheckTurns_e0 (l : List Pn) (ts : List T3) (ph cs xs : List Int) (he : tkE l ts ph cs ≠ 0) (hll : l.length ≤ 1000000) (hpl : ph.length ≤ 1000000) (hcl : cs.length ≤ 1000000) (c c2 c3 c4 c5 z z1 z2 z3 z4 : Nat) (hz : z = 0 ∨ z = 2) :
  PCalls Tryz.prog 42 [.agg #[.slice (some ⟨0, 0, none⟩) l.length c, .slice (some ⟨1, 0, none⟩) ts.length c2, .slice (some ⟨2, 0, none⟩) ph.length c3, .slice (some ⟨3, 0, none⟩) cs.length c4], .slice (some ⟨4, 0, none⟩) xs.length c5] [some ⟨flatP l, false, z⟩, some ⟨flatT ts, false, z1⟩, some ⟨flatN ph, false, z2⟩, some ⟨flatN cs, false, z3⟩, some ⟨flatN xs, false, z4⟩] (.tuple #[.int .i64 0, .int .i64 (tkE l ts ph cs)]) := by
 have hop := fun (m : Mem) (hA : ArgN m 0 1 l ts) (F C : Blk) (f1 : m.at 2 = some F) (f2 : F.cells = flatN ph) (f3 : F.obj = Ob.plain) (d1 : m.at 3 = some C) (d2 : C.cells = flatN cs) (d3 : C.obj = Ob.plain) => openTask_e (c := c) (c2 := c2) (c3 := c3) (c4 := c4) l ts ph cs hA rfl rfl f1 f2 rfl d1 d2 rfl he hll hpl hcl f3 d3
 generalize tkE l ts ph cs = E0 at *
 refine PCalls.en 34 Tryz.func42 rfl (ro5p _ _ _ _ _ rfl rfl rfl rfl rfl) rfl (fun E => ?_)
 repeat' (first | with_reducible (first | refine Then.n ?_ | refine Then.r ?_) | ((with_reducible refine AL.on ?_); first | ((first | refine AL.as ?_ | refine AL.mv ?_ | refine AL.et ?_ | ((with_reducible refine AL.k_load ?_); refine AL.g (OQ.loadN (ty := 67) (n := 4) rfl kr kr rfl) ?_) | ((with_reducible refine AL.k_binOp ?_); refine AL.g (OQ.neq rfl rfl) ?_)); refine AL.nm ?_) | ((refine AL.pcall (g := 85) rfl kr rfl ((by exact hop _ ⟨⟨_, rfl, rfl, hz, rfl⟩, ⟨_, rfl, rfl, rfl⟩, by decide⟩ _ _ rfl rfl rfl rfl rfl rfl)) ?_); refine AL.nm ?_) | ((refine AL.bx ?_); refine AL.nm ?_; refine AL.nM ?_) | refine AL.nil ?_) | ((with_reducible refine AW.on ?_); first | refine AW.seq ?_ | refine AW.ret ?_ | refine AW.region ?_ | (refine AW.conds rfl (fun hc => ?_) (fun hc => ?_) <;> (try replace hc := nc hc) <;> first | (exfalso; contradiction) | skip)) | ((with_reducible refine FinP.on ?_); (refine FinP.ret (.tmp wl (.tmp wl .nil)) ?_ rfl); (try simp only [pack, List.drop, List.take]); all_goals (rfl)))
theorem CheckTurns_y0 (l : List Pn) (ts : List T3) (ph cs xs : List Int) (hT : TaskR l ts ph cs) (hxl : xs.length ≤ 1000000) (c c2 c3 c4 c5 z z1 z2 z3 z4 : Nat) (hz : z = 0 ∨ z = 2) :
  PCalls Tryz.prog 42 [.agg #[.slice (some ⟨0, 0, none⟩) l.length c, .slice (some ⟨1, 0, none⟩) ts.length c2, .slice (some ⟨2, 0, none⟩) ph.length c3, .slice (some ⟨3, 0, none⟩) cs.length c4], .slice (some ⟨4, 0, none⟩) xs.length c5] [some ⟨flatP l, false, z⟩, some ⟨flatT ts, false, z1⟩, some ⟨flatN ph, false, z2⟩, some ⟨flatN cs, false, z3⟩, some ⟨flatN xs, false, z4⟩] (.tuple #[.int .i64 (ctI ts ph cs xs), .int .i64 (tuE ts ph xs)]) := by
 have hcl := hT.len
 have hcb := anyR_no hT.rng
 have hle := edL_le ts
 have h80 := hT.net.le
 have hop := fun (m : Mem) (hA : ArgN m 0 1 l ts) (F C : Blk) (f1 : m.at 2 = some F) (f2 : F.cells = flatN ph) (f3 : F.obj = Ob.plain) (d1 : m.at 3 = some C) (d2 : C.cells = flatN cs) (d3 : C.obj = Ob.plain) => openTask_q (c := c) (c2 := c2) (c3 := c3) (c4 := c4) l ts ph cs hA rfl rfl f1 f2 rfl d1 d2 rfl hT (by decide) f3 d3
 have hte := fun (m : Mem) (h : OpenN m 6 7 8 0 1 c c2 l ts) (F X : Blk) (f1 : m.at 2 = some F) (f2 : F.cells = flatN ph) (f3 : F.obj = Ob.plain) (x1 : m.at 4 = some X) (x2 : X.cells = flatN xs) (x3 : X.obj = Ob.plain) => turnsErr_q (c3 := c3) (c4 := c5) h hT.net ph xs hT.ph hxl f1 f2 rfl x1 x2 rfl f3 x3
 by_cases htu : tuE ts ph xs = 0
 ·obtain ⟨hxl2, hxa⟩ := tuR_0 (tuE_0 htu)
  have hxb := anyR_no hxa
  have hcq := fun (m : Mem) (h : OpenT m 9 6 7 8 0 1 2 3 c c2 c3 c4 l ts ph cs) (X : Blk) (x1 : m.at 4 = some X) (x2 : X.cells = flatN xs) (x3 : X.obj = Ob.plain) => cost_q (n := xs.length) (cx := c5) h xs (by omega) (fun k hk => ⟨hcb k (by omega), hxb k hk⟩) (by omega) x1 x2 rfl x3
  have hci : ctI ts ph cs xs = coL cs xs xs.length := by unfold ctI; rw [if_neg (fun h => h htu), hxl2]
  rw [htu] at hte ⊢
  rw [hci]
  refine PCalls.en 34 Tryz.func42 rfl (ro5p _ _ _ _ _ rfl rfl rfl rfl rfl) rfl (fun E => ?_)
  repeat' (first | with_reducible (refine Then.n ?_) | ((with_reducible refine AL.on ?_); first | ((first | refine AL.as ?_ | refine AL.mv ?_ | refine AL.et ?_ | ((with_reducible refine AL.k_load ?_); refine AL.g (OQ.loadN (ty := 67) (n := 4) rfl kr kr rfl) ?_) | ((with_reducible refine AL.k_binOp ?_); refine AL.g (OQ.neq rfl rfl) ?_)); refine AL.nm ?_) | ((refine AL.pcall (g := 86) rfl kr rfl ((by exact hcq _ ⟨⟨⟨_, rfl, rfl, rfl⟩, ⟨_, rfl, rfl, rfl⟩, ⟨_, rfl, rfl, rfl⟩, ⟨_, rfl⟩, ⟨_, rfl, rfl, rfl⟩⟩, ⟨_, rfl, rfl, rfl⟩, ⟨_, rfl, rfl, rfl⟩, ⟨_, rfl, rfl, rfl⟩⟩ _ rfl rfl rfl)) ?_); refine AL.nm ?_) | ((first | ((with_reducible refine AL.k_call ?_); refine AL.acall (g := 85) rfl kr rfl ((by exact hop _ ⟨⟨_, rfl, rfl, hz, rfl⟩, ⟨_, rfl, rfl, rfl⟩, by decide⟩ _ _ rfl rfl rfl rfl rfl rfl)) ?_) | refine AL.bx ?_); refine AL.nm ?_; refine AL.nM ?_) | refine AL.nil ?_) | ((with_reducible refine AW.on ?_); first | refine AW.seq ?_ | refine AW.skip ?_ | refine AW.ret ?_ | (refine AW.drawF (id := 4) 12 #[0, 1, 3, 7, 0, 16, 0, 127, 255, 511, 511, 1023, 4095] kr kr ?_; (conv => (arg 8; simp only [List.take_succ_cons, List.take_zero]))) | refine AW.region ?_ | (refine AW.conds rfl (fun hc => ?_) (fun hc => ?_) <;> (try replace hc := nc hc) <;> first | (exfalso; contradiction) | skip)) | ((with_reducible refine AF.on ?_); first | ((first | ((with_reducible refine AF.k_assign ?_); (refine AF.q 0 (SW.q (OQ.assign wl) rfl) ?_)) | ((with_reducible refine AF.k_move ?_); (refine AF.q 0 (SW.q (OQ.move wl) rfl) ?_)) | ((with_reducible refine AF.k_extract ?_); refine AF.q 0 (SW.q (OQ.extract rfl rfl) rfl) ?_) | ((with_reducible refine AF.k_load ?_); first | (refine AF.ql rfl (SW.q (OQ.load1 (ty := 103) rfl kr wl) rfl) ?_) | (refine AF.ql rfl (SW.q (OQ.load1 (ty := 26) rfl kr wl) rfl) ?_)) | ((with_reducible refine AF.k_call ?_); refine AF.q 2 (SW.pcall (g := 66) rfl kr rfl ((by exact hte _ ⟨⟨_, rfl, rfl, rfl⟩, ⟨_, rfl, rfl, rfl⟩, ⟨_, rfl, rfl, rfl⟩, ⟨_, rfl⟩, ⟨_, rfl, rfl, rfl⟩⟩ _ _ rfl rfl rfl rfl rfl rfl)) rfl) ?_) | ((with_reducible refine AF.k_fieldAddr ?_); first | refine AF.q 0 (SW.q (OQ.fieldA (ty := 134) (i := 0) (n := 1) (off := 0) (g := false) rfl kr (by decide)) rfl) ?_ | refine AF.q 0 (SW.q (OQ.fieldA (ty := 67) (i := 1) (n := 1) (off := 2) (g := false) rfl kr (by decide)) rfl) ?_) | refine AF.q 2 (SW.q (OQ.nilCheck rfl) rfl) ?_); refine AF.nm ?_) | refine AF.nl ?_) | ((with_reducible refine FinP.on ?_); (refine FinP.ret (.tmp wl (.tmp wl .nil)) ?_ rfl); (try simp only [pack, List.drop, List.take]); all_goals (rfl)))
 ·have hci : ctI ts ph cs xs = tuI ts ph xs := if_pos htu
  rw [hci]
  generalize tuE ts ph xs = E0 at *
  generalize tuI ts ph xs = I0 at *
  refine PCalls.en 34 Tryz.func42 rfl (ro5p _ _ _ _ _ rfl rfl rfl rfl rfl) rfl (fun E => ?_)
  repeat' (first | with_reducible (first | refine Then.n ?_ | refine Then.r ?_) | ((with_reducible refine AL.on ?_); first | ((first | refine AL.as ?_ | refine AL.mv ?_ | refine AL.et ?_ | ((with_reducible refine AL.k_load ?_); refine AL.g (OQ.loadN (ty := 67) (n := 4) rfl kr kr rfl) ?_) | ((with_reducible refine AL.k_binOp ?_); refine AL.g (OQ.neq rfl rfl) ?_)); refine AL.nm ?_) | ((first | ((with_reducible refine AL.k_call ?_); refine AL.acall (g := 85) rfl kr rfl ((by exact hop _ ⟨⟨_, rfl, rfl, hz, rfl⟩, ⟨_, rfl, rfl, rfl⟩, by decide⟩ _ _ rfl rfl rfl rfl rfl rfl)) ?_) | refine AL.bx ?_); refine AL.nm ?_; refine AL.nM ?_) | refine AL.nil ?_) | ((with_reducible refine AW.on ?_); first | refine AW.seq ?_ | refine AW.skip ?_ | refine AW.ret ?_ | (refine AW.drawF (id := 4) 12 #[0, 1, 3, 7, 0, 16, 0, 127, 255, 511, 511, 1023, 4095] kr kr ?_; (conv => (arg 8; simp only [List.take_succ_cons, List.take_zero]))) | refine AW.region ?_ | (refine AW.conds rfl (fun hc => ?_) (fun hc => ?_) <;> (try replace hc := nc hc) <;> first | (exfalso; contradiction) | skip)) | ((with_reducible refine AF.on ?_); first | ((first | ((with_reducible refine AF.k_assign ?_); (refine AF.q 0 (SW.q (OQ.assign wl) rfl) ?_)) | ((with_reducible refine AF.k_move ?_); (refine AF.q 0 (SW.q (OQ.move wl) rfl) ?_)) | ((with_reducible refine AF.k_extract ?_); refine AF.q 0 (SW.q (OQ.extract rfl rfl) rfl) ?_) | ((with_reducible refine AF.k_load ?_); first | (refine AF.ql rfl (SW.q (OQ.load1 (ty := 103) rfl kr wl) rfl) ?_) | (refine AF.ql rfl (SW.q (OQ.load1 (ty := 26) rfl kr wl) rfl) ?_)) | ((with_reducible refine AF.k_call ?_); refine AF.q 2 (SW.pcall (g := 66) rfl kr rfl ((by exact hte _ ⟨⟨_, rfl, rfl, rfl⟩, ⟨_, rfl, rfl, rfl⟩, ⟨_, rfl, rfl, rfl⟩, ⟨_, rfl⟩, ⟨_, rfl, rfl, rfl⟩⟩ _ _ rfl rfl rfl rfl rfl rfl)) rfl) ?_) | ((with_reducible refine AF.k_fieldAddr ?_); first | refine AF.q 0 (SW.q (OQ.fieldA (ty := 134) (i := 0) (n := 1) (off := 0) (g := false) rfl kr (by decide)) rfl) ?_ | refine AF.q 0 (SW.q (OQ.fieldA (ty := 67) (i := 1) (n := 1) (off := 2) (g := false) rfl kr (by decide)) rfl) ?_) | refine AF.q 2 (SW.q (OQ.nilCheck rfl) rfl) ?_); refine AF.nm ?_) | refine AF.nl ?_) | ((with_reducible refine FinP.on ?_); (refine FinP.ret (.tmp wl (.tmp wl .nil)) ?_ rfl); (try simp only [pack, List.drop, List.take]); all_goals (rfl)))
theorem offPo_q (n : Int) (m : Mem) : PCalls Tryz.prog 88 [.int .i64 n] m (.bool (!rgB n (-1000000) 1000000)) := by
 refine PCalls.any ?_ rfl rfl m
 have hw := fun m => within_q n (-1000000) 1000000 m
 refine PCalls.en 5 Tryz.func88 rfl (ro_nil) rfl (fun E => ?_)
 repeat' (first | with_reducible (refine Then.n ?_) | ((with_reducible refine AL.on ?_); first | ((first | refine AL.as ?_ | refine AL.mv ?_ | ((with_reducible refine AL.k_unOp ?_); refine AL.g (OQ.not rfl) ?_)); refine AL.nm ?_) | ((refine AL.pcall (g := 89) rfl kr rfl (hw _) ?_); refine AL.nm ?_) | refine AL.nil ?_) | ((with_reducible refine AW.on ?_); first | refine AW.seq ?_ | refine AW.ret ?_ | refine AW.region ?_) | ((with_reducible refine FinP.on ?_); (refine FinP.ret (.tmp wl .nil) ?_ rfl); (try simp only [pack, List.drop, List.take]); all_goals (rfl)))
theorem potential_0 (ps : List Int) (i : Int) (h0 : -1 ≤ i) (hi : i < ps.length) (c z : Nat) (hl : ps.length ≤ 1000000) : PCalls Tryz.prog 90 [.slice (some ⟨0, 0, none⟩) ps.length c, .int .i64 i] [some ⟨flatN ps, false, z⟩] (.int .i64 (po ps i)) := by
 have hg := fun k (hk : k < ps.length) => flatN_get ps k hk
 have h1 := @po_in ps i
 have h2 : i = -1 → po ps i = 0 := fun h => by rw [h]; rfl
 refine PCalls.en 9 Tryz.func90 rfl (ro1p _ rfl) rfl (fun E => ?_)
 repeat' (first | with_reducible (first | refine Then.n ?_ | refine Then.r ?_) | ((with_reducible refine AL.on ?_); first | ((first | refine AL.as ?_ | refine AL.mv ?_ | ((with_reducible refine AL.k_binOp ?_); refine AL.g (OQ.eql rfl rfl) ?_) | ((with_reducible refine AL.k_load ?_); (refine AL.g (OQ.load1 (ty := 3) rfl kr (by (exact hg _ (by omega)))) ?_))); refine AL.nm ?_) | ((refine AL.g (OQ.idxAddr (ty := 26) (z := 1) (g := false) rfl rfl kr (by omega) (by omega)) ?_); refine AL.nm ?_) | refine AL.nil ?_) | ((with_reducible refine AW.on ?_); first | refine AW.seq ?_ | refine AW.skip ?_ | refine AW.ret ?_ | refine AW.region ?_ | (refine AW.conds rfl (fun hc => ?_) (fun hc => ?_) <;> (try replace hc := nc hc) <;> skip)) | ((with_reducible refine FinP.on ?_); (refine FinP.ret (.tmp wl .nil) ?_ rfl); (try simp only [pack, List.drop, List.take]); all_goals (first | (rw [h2 (by omega)]; done) | (rw [h1 (by omega)]))))
theorem potential_q {m : Mem} {b n c : Nat} {X : Blk} (ps : List Int) (i : Int) (h0 : -1 ≤ i) (hi : i < ps.length) (hl : ps.length ≤ 1000000) (x1 : m.at b = some X) (x2 : X.cells = flatN ps) (hn : ps.length = n) (x3 : X.obj = Ob.plain) : PCalls Tryz.prog 90 [.slice (some ⟨b, 0, none⟩) n c, .int .i64 i] m (.int .i64 (po ps i)) := by
 subst hn
 exact PCalls.viaS [b] (potential_0 ps i h0 hi c X.esz hl) (ro1p _ rfl) ⟨bS x1 x3 x2 (flatN_scal _), trivial⟩ rfl rfl rfl rfl
theorem bound_9 (l : List Pn) (ts : List T3) (ph cs ps : List Int) (hT : TaskR l ts ph cs) (hpl : ps.length = ts.length) (hb : ∀ k, k < ps.length → -1000000 ≤ nt ps k ∧ nt ps k ≤ 1000000) (c c2 c3 c4 cx z0 z1 z2 z4 z5 z6 z7 z8 : Nat) :
  PCalls Tryz.prog 91 [.pointer (some ⟨7, 0, none⟩), .slice (some ⟨8, 0, none⟩) ps.length cx] [some ⟨flatP l, false, z0⟩, some ⟨flatT ts, false, z1⟩, some ⟨[.slice (some ⟨0, 0, none⟩) l.length c, .slice (some ⟨1, 0, none⟩) ts.length c2, .slice (some ⟨4, 0, none⟩) (edL ts).length INF, .map (some 3)], false, z2⟩, some (mpX (lfA ts) false 0), some ⟨flatP (edL ts), false, z4⟩, some ⟨flatN ph, false, z5⟩, some ⟨flatN cs, false, z6⟩, some ⟨[.pointer (some ⟨2, 0, none⟩), .slice (some ⟨5, 0, none⟩) ph.length c3, .slice (some ⟨6, 0, none⟩) cs.length c4], false, z7⟩, some ⟨flatN ps, false, z8⟩] (.int .i64 (bnK (clL ts ph) ps ts.length)) := by
 have hcd := fun (m : Mem) (h : OpenN m 2 3 4 0 1 c c2 l ts) (F : Blk) (f1 : m.at 5 = some F) (f2 : F.cells = flatN ph) (f3 : F.obj = Ob.plain) => closures_q (n := ph.length) (c3 := c3) h hT.net ph hT.ph f1 f2 rfl (by decide) f3
 have h80 := hT.net.le
 have hcl := clL_len ts ph
 have hbb := bnK_bd hT.net ph hb hpl
 have hbm := fun (k : Nat) (hk : k < ts.length) => bn_mul hT.net ph hb hpl hk
 have hs : ∀ k, bnK (clL ts ph) ps (k + 1) = bnK (clL ts ph) ps k - nt (clL ts ph) k * nt ps k := fun k => rfl
 have h0 : bnK (clL ts ph) ps 0 = 0 := rfl
 generalize bnK (clL ts ph) ps = BK at *
 generalize clL ts ph = CL at *
 have hgC : ∀ k, k < ts.length → (flatN CL)[k]? = some (.int .i64 (nt CL k)) := fun k hk => flatN_get _ k (by omega)
 have hgP : ∀ k, k < ts.length → (flatN ps)[k]? = some (.int .i64 (nt ps k)) := fun k hk => flatN_get _ k (by omega)
 rw [hpl]
 refine PCalls.en 31 Tryz.func91 rfl (ro9p _ _ _ _ _ _ _ _ _ rfl rfl rfl rfl rfl rfl rfl rfl rfl) rfl (fun E => ?_)
 repeat' (first | with_reducible (first | refine Then.n ?_ | refine Then.x ?_ | refine InB.n ?_ | refine InB.hit ?_) | ((with_reducible refine AL.on ?_); first | ((first | refine AL.mv ?_ | refine AL.as ?_ | ((with_reducible refine AL.k_binOp ?_); first | refine AL.g (OQ.lss rfl rfl) ?_ | refine AL.g (OQ.muli rfl rfl (by omega)) ?_ | refine AL.g (OQ.subi rfl rfl (by omega)) ?_ | refine AL.g (OQ.addi rfl rfl (by omega)) ?_) | ((with_reducible refine AL.k_load ?_); (refine AL.g (OQ.load1 (ty := 3) rfl kr (by (first | exact hgC k (by omega) | exact hgP k (by omega)))) ?_))); refine AL.nm ?_) | ((refine AL.g (OQ.idxAddr (ty := 26) (z := 1) (g := false) rfl rfl kr (by omega) (by omega)) ?_); refine AL.nm ?_) | refine AL.nil ?_) | ((with_reducible refine AW.on ?_); first | refine AW.seq ?_ | refine AW.skip ?_ | refine AW.exit ?_ | refine AW.ret ?_ | ((refine AW.block (id := 0) ?_); (refine AW.fk [1, 5, 16, 17, 18] ?_); (refine AW.loop (fun n' t' m => ∃ k : Nat, n' = ts.length - k ∧ k ≤ ts.length ∧ t' = (mtz 33 0 [(1, .slice (some ⟨8, 0, none⟩) ts.length cx), (5, .int .i64 (BK k)), (16, .slice (some ⟨9, 0, none⟩) ts.length ts.length), (17, .int .i64 (ts.length)), (18, .int .i64 (k))]) ∧ m = [some ⟨flatP l, false, z0⟩, some ⟨flatT ts, false, z1⟩, some ⟨[.slice (some ⟨0, 0, none⟩) l.length c, .slice (some ⟨1, 0, none⟩) ts.length c2, .slice (some ⟨4, 0, none⟩) (edL ts).length INF, .map (some 3)], false, z2⟩, some (mpX (lfA ts) false 0), some ⟨flatP (edL ts), false, z4⟩, some ⟨flatN ph, false, z5⟩, some ⟨flatN cs, false, z6⟩, some ⟨[.pointer (some ⟨2, 0, none⟩), .slice (some ⟨5, 0, none⟩) ph.length c3, .slice (some ⟨6, 0, none⟩) cs.length c4], false, z7⟩, some ⟨flatN ps, false, z8⟩, some ⟨flatN CL, true, 1⟩]) (ts.length) (by exact ⟨0, rfl, Nat.zero_le _, by rw [h0]; rfl, rfl⟩) ?_); (rintro n' t' m ⟨k, rfl, hk, rfl, rfl⟩); (refine AW.nT ?_)) | refine AW.block ?_ | (refine AW.drawF (id := 2) 11 #[0, 1, 3, 7, 0, 16, 48, 112, 255, 511, 0] kr kr ?_; (conv => (arg 8; simp only [List.take_succ_cons, List.take_zero]))) | (refine AW.region (id := 5) ?_; ((have hq1 := hbb k (by omega); have hq2 := hbm k (by omega); have hq3 := hs k; have hq4 := hbb (k + 1) (by omega)))) | refine AW.region ?_ | (refine AW.conds rfl (fun hc => ?_) (fun hc => ?_) <;> (try replace hc := nc hc) <;> skip)) | ((with_reducible refine AF.on ?_); first | ((first | ((with_reducible refine AF.k_move ?_); (refine AF.q 0 (SW.q (OQ.move wl) rfl) ?_)) | ((with_reducible refine AF.k_load ?_); first | (refine AF.ql rfl (SW.q (OQ.load1 (ty := 103) rfl kr (by (conv => lhs; whnf))) rfl) ?_) | (refine AF.ql rfl (SW.q (OQ.load1 (ty := 26) rfl kr (by (conv => lhs; whnf))) rfl) ?_)) | ((with_reducible refine AF.k_fieldAddr ?_); first | refine AF.q 0 (SW.q (OQ.fieldA (ty := 134) (i := 0) (n := 1) (off := 0) (g := false) rfl kr (by decide)) rfl) ?_ | refine AF.q 0 (SW.q (OQ.fieldA (ty := 134) (i := 1) (n := 1) (off := 1) (g := false) rfl kr (by decide)) rfl) ?_) | ((with_reducible refine AF.k_call ?_); refine AF.q 0 (SW.q (OQ.lenS (xt := 26) (r := (none, 1, false)) rfl kr) rfl) ?_) | refine AF.q 2 (SW.q (OQ.nilCheck rfl) rfl) ?_); refine AF.nm ?_) | ((refine AF.n1 2 (SW.acall (g := 79) rfl kr rfl ((by exact hcd _ ⟨⟨_, rfl, rfl, rfl⟩, ⟨_, rfl, rfl, rfl⟩, ⟨_, rfl, rfl, rfl⟩, ⟨_, rfl⟩, ⟨_, rfl, rfl, rfl⟩⟩ _ rfl rfl rfl)) rfl) rfl ?_); refine AF.nm ?_; (conv => (arg 10; try tactic => exact nrmF))) | refine AF.nl ?_) | ((with_reducible refine ex_on ?_); (have hs2 := hs k; refine ⟨ts.length - (k + 1), _, _, by omega, ?_, k + 1, rfl, by omega, by rw [hs2], rfl⟩; exact Wk.fk [1, 5, 16, 17, 18] rfl)) | ((with_reducible refine FinP.on ?_); (refine FinP.ret (.tmp wl .nil) ?_ rfl); (try simp only [pack, List.drop, List.take]); all_goals ((obtain rfl : k = ts.length := (by omega); rfl))))
theorem bound_q {m : Mem} {bK bN bL bE bP bT bF bC c c2 c3 c4 : Nat} {l : List Pn} {ts : List T3} {ph cs : List Int} {bX n cx : Nat} {X : Blk} (h : OpenT m bK bN bL bE bP bT bF bC c c2 c3 c4 l ts ph cs) (ps : List Int) (hT : TaskR l ts ph cs) (hpl : ps.length = ts.length) (hb : ∀ k, k < ps.length → -1000000 ≤ nt ps k ∧ nt ps k ≤ 1000000) (x1 : m.at bX = some X) (x2 : X.cells = flatN ps) (hn : ps.length = n) (x3 : X.obj = Ob.plain) :
  PCalls Tryz.prog 91 [.pointer (some ⟨bK, 0, none⟩), .slice (some ⟨bX, 0, none⟩) n cx] m (.int .i64 (bnK (clL ts ph) ps ts.length)) := by
 subst hn
 obtain ⟨⟨⟨A, a1, a2, a3⟩, ⟨B, b1, b2, b3⟩, ⟨N, n1, n2, n3⟩, ⟨own, l1⟩, ⟨D, d1, d2, d3⟩⟩, ⟨F, f1, f2, f3⟩, ⟨C, c1, c2', c3'⟩, ⟨K, k1, k2, k3⟩⟩ := h
 exact PCalls.viaS [bP, bT, bN, bL, bE, bF, bC, bK, bX] (bound_9 l ts ph cs ps hT hpl hb c c2 c3 c4 cx A.esz B.esz N.esz D.esz F.esz C.esz K.esz X.esz) (ro9p _ _ _ _ _ _ _ _ _ rfl rfl rfl rfl rfl rfl rfl rfl rfl)
  ⟨bS a1 a3 a2 (flatP_scal _), bS b1 b3 b2 (flatT_scal _), bI n1 n3 n2, ⟨_, l1, rfl, (fun h => nomatch h), .inl ⟨rfl, rfl⟩⟩, bS d1 d3 d2 (flatP_scal _), bS f1 f3 f2 (flatN_scal _), bS c1 c3' c2' (flatN_scal _), bI k1 k3 k2, bS x1 x3 x2 (flatN_scal _), trivial⟩ rfl rfl rfl rfl
theorem CheckPotentials_e0 (l : List Pn) (ts : List T3) (ph cs ps : List Int) (he : tkE l ts ph cs ≠ 0) (hll : l.length ≤ 1000000) (hpl : ph.length ≤ 1000000) (hcl : cs.length ≤ 1000000) (c c2 c3 c4 c5 z z1 z2 z3 z4 : Nat) (hz : z = 0 ∨ z = 2) :
  PCalls Tryz.prog 44 [.agg #[.slice (some ⟨0, 0, none⟩) l.length c, .slice (some ⟨1, 0, none⟩) ts.length c2, .slice (some ⟨2, 0, none⟩) ph.length c3, .slice (some ⟨3, 0, none⟩) cs.length c4], .slice (some ⟨4, 0, none⟩) ps.length c5] [some ⟨flatP l, false, z⟩, some ⟨flatT ts, false, z1⟩, some ⟨flatN ph, false, z2⟩, some ⟨flatN cs, false, z3⟩, some ⟨flatN ps, false, z4⟩] (.tuple #[.int .i64 0, .int .i64 (tkE l ts ph cs)]) := by
 have hop := fun (m : Mem) (hA : ArgN m 0 1 l ts) (F C : Blk) (f1 : m.at 2 = some F) (f2 : F.cells = flatN ph) (f3 : F.obj = Ob.plain) (d1 : m.at 3 = some C) (d2 : C.cells = flatN cs) (d3 : C.obj = Ob.plain) => openTask_e (c := c) (c2 := c2) (c3 := c3) (c4 := c4) l ts ph cs hA rfl rfl f1 f2 rfl d1 d2 rfl he hll hpl hcl f3 d3
 generalize tkE l ts ph cs = E0 at *
 refine PCalls.en 76 Tryz.func44 rfl (ro5p _ _ _ _ _ rfl rfl rfl rfl rfl) rfl (fun E => ?_)
 repeat' (first | with_reducible (first | refine Then.n ?_ | refine Then.r ?_ | refine InB.r ?_) | ((with_reducible refine AL.on ?_); first | ((first | refine AL.mv ?_ | refine AL.as ?_ | ((with_reducible refine AL.k_load ?_); refine AL.g (OQ.loadN (ty := 67) (n := 4) rfl kr kr rfl) ?_) | ((with_reducible refine AL.k_binOp ?_); refine AL.g (OQ.neq rfl rfl) ?_) | refine AL.et ?_); refine AL.nm ?_) | ((refine AL.pcall (g := 85) rfl kr rfl ((by exact hop _ ⟨⟨_, rfl, rfl, hz, rfl⟩, ⟨_, rfl, rfl, rfl⟩, by decide⟩ _ _ rfl rfl rfl rfl rfl rfl)) ?_); refine AL.nm ?_) | ((refine AL.bx ?_); refine AL.nm ?_; refine AL.nM ?_) | refine AL.nil ?_) | ((with_reducible refine AW.on ?_); first | refine AW.seq ?_ | refine AW.ret ?_ | refine AW.block ?_ | refine AW.region ?_ | (refine AW.conds rfl (fun hc => ?_) (fun hc => ?_) <;> (try replace hc := nc hc) <;> first | (exfalso; contradiction) | skip)) | ((with_reducible refine FinP.on ?_); (refine FinP.ret (.tmp wl (.tmp wl .nil)) ?_ rfl); (try simp only [pack, List.drop, List.take]); all_goals (rfl)))
theorem CheckPotentials_y0 (l : List Pn) (ts : List T3) (ph cs ps : List Int) (hT : TaskR l ts ph cs) (hpl : ps.length ≤ 1000000) (c c2 c3 c4 c5 z z1 z2 z3 z4 : Nat) (hz : z = 0 ∨ z = 2) :
  PCalls Tryz.prog 44 [.agg #[.slice (some ⟨0, 0, none⟩) l.length c, .slice (some ⟨1, 0, none⟩) ts.length c2, .slice (some ⟨2, 0, none⟩) ph.length c3, .slice (some ⟨3, 0, none⟩) cs.length c4], .slice (some ⟨4, 0, none⟩) ps.length c5] [some ⟨flatP l, false, z⟩, some ⟨flatT ts, false, z1⟩, some ⟨flatN ph, false, z2⟩, some ⟨flatN cs, false, z3⟩, some ⟨flatN ps, false, z4⟩] (.tuple #[.int .i64 (cpI ts ph cs ps), .int .i64 (poE ts cs ps)]) := by
 have hcl := hT.len
 have hcb := anyR_no hT.rng
 have hle := edL_le ts
 have h80 := hT.net.le
 have hop := fun (m : Mem) (hA : ArgN m 0 1 l ts) (F C : Blk) (f1 : m.at 2 = some F) (f2 : F.cells = flatN ph) (f3 : F.obj = Ob.plain) (d1 : m.at 3 = some C) (d2 : C.cells = flatN cs) (d3 : C.obj = Ob.plain) => openTask_q (c := c) (c2 := c2) (c3 := c3) (c4 := c4) l ts ph cs hA rfl rfl f1 f2 rfl d1 d2 rfl hT (by decide) f3 d3
 have hcf := fun (m : Mem) (blk : Blk) (h1 : m.at 4 = some blk) (h2 : blk.cells = flatN ps) (h3 : blk.obj = Ob.plain) => ContainsI_q (c := c5) 88 (by kernel_rfl) (fun x => !rgB x (-1000000) 1000000) offPo_q ps hpl h1 h2 rfl h3
 have e10 := @poE_10 ts cs ps
 have e2 := @poE_2 ts cs ps
 have v0 : poE ts cs ps ≠ 0 → cpI ts ph cs ps = 0 := fun h => if_pos h
 by_cases h1 : ps.length = ts.length
 ·cases h2 : ps.any (fun x => !rgB x (-1000000) 1000000) with
  | true =>
   have e := e2 h1 h2
   rw [v0 (by rw [e]; decide), e]
   rw [h2] at hcf
   refine PCalls.en 76 Tryz.func44 rfl (ro5p _ _ _ _ _ rfl rfl rfl rfl rfl) rfl (fun E => ?_)
   repeat' (first | with_reducible (first | refine Then.n ?_ | refine Then.r ?_ | refine InB.r ?_) | ((with_reducible refine AL.on ?_); first | ((first | refine AL.mv ?_ | refine AL.as ?_ | ((with_reducible refine AL.k_load ?_); first | refine AL.g (OQ.loadN (ty := 67) (n := 4) rfl kr kr rfl) ?_ | (refine AL.g (OQ.load1 (ty := 103) rfl kr wl) ?_) | (refine AL.g (OQ.load1 (ty := 23) rfl kr wl) ?_)) | ((with_reducible refine AL.k_call ?_); first | refine AL.g (OQ.lenS (xt := 26) (r := (none, 1, false)) rfl kr) ?_ | refine AL.g (OQ.lenS (xt := 23) (r := (none, 3, true)) rfl kr) ?_) | ((with_reducible refine AL.k_fieldAddr ?_); first | refine AL.g (OQ.fieldA (ty := 134) (i := 0) (n := 1) (off := 0) (g := false) rfl kr (by decide)) ?_ | refine AL.g (OQ.fieldA (ty := 110) (i := 0) (n := 2) (off := 0) (g := true) rfl kr (by decide)) ?_ | refine AL.g (OQ.fieldA (ty := 25) (i := 1) (n := 1) (off := 1) (g := false) rfl kr (by decide)) ?_) | ((with_reducible refine AL.k_binOp ?_); refine AL.g (OQ.neq rfl rfl) ?_) | refine AL.et ?_ | refine AL.g (OQ.nilCheck rfl) ?_); refine AL.nm ?_) | ((refine AL.pcall (g := 87) rfl kr rfl ((by exact hcf _ _ rfl rfl rfl)) ?_); refine AL.nm ?_) | ((first | ((with_reducible refine AL.k_call ?_); refine AL.acall (g := 85) rfl kr rfl ((by exact hop _ ⟨⟨_, rfl, rfl, hz, rfl⟩, ⟨_, rfl, rfl, rfl⟩, by decide⟩ _ _ rfl rfl rfl rfl rfl rfl)) ?_) | refine AL.bx ?_); refine AL.nm ?_; refine AL.nM ?_) | refine AL.nil ?_) | ((with_reducible refine AW.on ?_); first | refine AW.seq ?_ | refine AW.ret ?_ | refine AW.block ?_ | refine AW.region ?_ | (refine AW.conds rfl (fun hc => ?_) (fun hc => ?_) <;> (try replace hc := nc hc) <;> first | (exfalso; first | contradiction | (omega); done) | skip)) | ((with_reducible refine FinP.on ?_); (refine FinP.ret (.tmp wl (.tmp wl .nil)) ?_ rfl); (try simp only [pack, List.drop, List.take]); all_goals (rfl)))
  | false =>
   rw [h2] at hcf
   have hpb := anyR_no h2
   have hsq := fun (m : Mem) (i : Nat) (h : OpenN m 6 7 8 0 1 c c2 l ts) (hi : i < (edL ts).length) => sides_q (i := i) h hT.net hi
   have hps := fun (i : Nat) (hi : i < (edL ts).length) => sdL_pt (ts := ts) hi
   have hsr : ∀ k, k < (edL ts).length → (-1 ≤ (pt (sdL ts) k).x ∧ (pt (sdL ts) k).x < ts.length) ∧ (-1 ≤ (pt (sdL ts) k).y ∧ (pt (sdL ts) k).y < ts.length) := fun k hk => by
    rw [sdL_pt hk]
    exact sdP_rng ts _
   have hsq := fun (m : Mem) (i : Nat) (h : OpenN m 6 7 8 0 1 c c2 l ts) (hi : i < (edL ts).length) => by
    have h3 := hsq m i h hi
    rw [← hps i hi] at h3
    exact h3
   have hpo := fun (m : Mem) (i : Int) (h0 : -1 ≤ i) (hi : i < ts.length) (X : Blk) (x1 : m.at 4 = some X) (x2 : X.cells = flatN ps) (x3 : X.obj = Ob.plain) => potential_q (c := c5) ps i h0 (by omega) hpl x1 x2 rfl x3
   have hpbd := fun (i : Int) (h0 : -1 ≤ i) (hi : i < ts.length) => po_bd hpb h0 (show i < (ps.length : Int) by omega)
   have hbq := fun (m : Mem) (h : OpenT m 9 6 7 8 0 1 2 3 c c2 c3 c4 l ts ph cs) (X : Blk) (x1 : m.at 4 = some X) (x2 : X.cells = flatN ps) (x3 : X.obj = Ob.plain) => bound_q (n := ps.length) (cx := c5) h ps hT h1 hpb x1 x2 rfl x3
   have hgC : ∀ k, k < (edL ts).length → (flatN cs)[k]? = some (.int .i64 (nt cs k)) := fun k hk => flatN_get _ k (by omega)
   have e22 := fun k hk hj he => poE_22 (ts := ts) (cs := cs) (ps := ps) h1 h2 (k := k) hk hj he
   have e0 := fun hj => poE_0 (ts := ts) (cs := cs) (ps := ps) h1 h2 hj
   have vb : poE ts cs ps = 0 → cpI ts ph cs ps = bnK (clL ts ph) ps ts.length := fun h => if_neg fun h2 => h2 h
   have hp1 : ∀ k, (if -(po ps (pt (sdL ts) k).x - po ps (pt (sdL ts) k).y) > po ps (pt (sdL ts) k).x - po ps (pt (sdL ts) k).y then -(po ps (pt (sdL ts) k).x - po ps (pt (sdL ts) k).y) else po ps (pt (sdL ts) k).x - po ps (pt (sdL ts) k).y) > nt cs k → prF ts cs ps k ≠ 0 := fun k h => by
    unfold prF abI
    rw [if_pos h]
    decide
   have hp0 : ∀ k, (if -(po ps (pt (sdL ts) k).x - po ps (pt (sdL ts) k).y) > po ps (pt (sdL ts) k).x - po ps (pt (sdL ts) k).y then -(po ps (pt (sdL ts) k).x - po ps (pt (sdL ts) k).y) else po ps (pt (sdL ts) k).x - po ps (pt (sdL ts) k).y) ≤ nt cs k → prF ts cs ps k = 0 := fun k h => by
    unfold prF abI
    rw [if_neg (Int.not_lt.2 h)]
   clear hps
   generalize cpI ts ph cs ps = IV at *
   generalize poE ts cs ps = EV at *
   generalize prF ts cs ps = PF at *
   generalize bnK (clL ts ph) ps ts.length = BV at *
   generalize po ps = PO at *
   refine PCalls.enJ 76 Tryz.func44 rfl (ro5p _ _ _ _ _ rfl rfl rfl rfl rfl) rfl (fun E hE => ?_)
   repeat' (first | with_reducible (first | refine Then.n ?_ | refine Then.r ?_ | refine Then.x ?_ | refine InB.n ?_ | refine InB.r ?_ | refine InB.hit ?_) | ((with_reducible refine AL.on ?_); first | ((first | refine AL.mv ?_ | refine AL.as ?_ | ((with_reducible refine AL.k_load ?_); first | refine AL.g (OQ.loadN (ty := 67) (n := 4) rfl kr kr (by rfl)) ?_ | (refine AL.g (OQ.load1 (ty := 103) rfl kr (by (conv => lhs; whnf))) ?_) | (refine AL.g (OQ.load1 (ty := 23) rfl kr (by (conv => lhs; whnf))) ?_) | (refine AL.g (OQ.load1 (ty := 45) rfl kr (by (conv => lhs; whnf))) ?_) | (refine AL.g (OQ.load1 (ty := 26) rfl kr (by (conv => lhs; whnf))) ?_) | (refine AL.g (OQ.load1 (ty := 3) rfl kr (by (exact hgC k (by omega)))) ?_)) | ((with_reducible refine AL.k_call ?_); first | refine AL.g (OQ.lenS (xt := 26) (r := (none, 1, false)) rfl kr) ?_ | refine AL.g (OQ.lenS (xt := 23) (r := (none, 3, true)) rfl kr) ?_ | refine AL.g (OQ.lenS (xt := 45) (r := (none, 2, true)) rfl kr) ?_ | refine AL.g (OQ.max2 rfl rfl) ?_) | ((with_reducible refine AL.k_binOp ?_); first | refine AL.g (OQ.neq rfl rfl) ?_ | refine AL.g (OQ.lss rfl rfl) ?_ | refine AL.g (OQ.subi rfl rfl (by omega)) ?_ | refine AL.g (OQ.gtr rfl rfl) ?_ | refine AL.g (OQ.addi rfl rfl (by omega)) ?_) | refine AL.et ?_ | ((with_reducible refine AL.k_unOp ?_); refine AL.g (OQ.negi rfl (by omega)) ?_) | refine AL.g (OQ.nilCheck rfl) ?_); refine AL.nm ?_) | ((first | ((with_reducible refine AL.k_call ?_); first | refine AL.pcall (g := 87) rfl kr rfl ((by exact hcf _ _ rfl rfl rfl)) ?_ | refine AL.pcall (g := 72) rfl kr rfl ((by exact hsq _ k ⟨⟨_, rfl, rfl, rfl⟩, ⟨_, rfl, rfl, rfl⟩, ⟨_, rfl, rfl, rfl⟩, ⟨_, rfl⟩, ⟨_, rfl, rfl, rfl⟩⟩ (by omega))) ?_ | refine AL.pcall (g := 90) rfl kr rfl ((by exact hpo _ _ (by omega) (by omega) _ rfl rfl rfl)) ?_ | refine AL.pcall (g := 91) rfl kr rfl ((by exact hbq _ ⟨⟨⟨_, rfl, rfl, rfl⟩, ⟨_, rfl, rfl, rfl⟩, ⟨_, rfl, rfl, rfl⟩, ⟨_, rfl⟩, ⟨_, rfl, rfl, rfl⟩⟩, ⟨_, rfl, rfl, rfl⟩, ⟨_, rfl, rfl, rfl⟩, ⟨_, rfl, rfl, rfl⟩⟩ _ rfl rfl rfl)) ?_) | ((with_reducible refine AL.k_fieldAddr ?_); first | refine AL.g (OQ.fieldA (ty := 134) (i := 0) (n := 1) (off := 0) (g := false) rfl kr (by decide)) ?_ | refine AL.g (OQ.fieldA (ty := 110) (i := 0) (n := 2) (off := 0) (g := true) rfl kr (by decide)) ?_ | refine AL.g (OQ.fieldA (ty := 25) (i := 1) (n := 1) (off := 1) (g := false) rfl kr (by decide)) ?_ | refine AL.g (OQ.fieldA (ty := 110) (i := 1) (n := 1) (off := 2) (g := false) rfl kr (by decide)) ?_ | refine AL.g (OQ.fieldA (ty := 134) (i := 2) (n := 1) (off := 2) (g := false) rfl kr (by decide)) ?_) | ((with_reducible refine AL.k_indexAddr ?_); refine AL.g (OQ.idxAddr (ty := 26) (z := 1) (g := false) rfl rfl kr (by omega) (by omega)) ?_)); refine AL.nm ?_) | ((first | ((with_reducible refine AL.k_call ?_); refine AL.acall (g := 85) rfl kr rfl ((by exact hop _ ⟨⟨_, rfl, rfl, hz, rfl⟩, ⟨_, rfl, rfl, rfl⟩, by decide⟩ _ _ rfl rfl rfl rfl rfl rfl)) ?_) | refine AL.bx ?_ | ((with_reducible refine AL.k_alloc ?_); refine AL.w rfl (OW.alloc (ty := 52) (z := [.int .i64 0, .int .i64 0]) kr rfl) ?_) | ((with_reducible refine AL.k_store ?_); (refine AL.w rfl (OW.store (ty := 52) (n := 2) rfl wl rfl rfl kr rfl rfl (by decide) rfl (Nat.le_of_ble_eq_true rfl) (by intro r h; cases h)) ?_))); refine AL.nm ?_; refine AL.nM ?_) | refine AL.nil ?_) | ((with_reducible refine AW.on ?_); first | refine AW.seq ?_ | refine AW.skip ?_ | refine AW.exit ?_ | refine AW.ret ?_ | ((refine AW.block (id := 1) ?_); (refine AW.fk [1, 6, 43, 44] ?_); (refine AW.loop (fun n' t' m => ∃ k : Nat, n' = (edL ts).length - k ∧ k ≤ (edL ts).length ∧ (∀ j, j < k → PF j = 0) ∧ t' = (mtz 78 0 [(1, .slice (some ⟨4, 0, none⟩) ps.length c5), (6, .pointer (some ⟨9, 0, none⟩)), (43, .int .i64 ((edL ts).length)), (44, .int .i64 (k))]) ∧ m = [some ⟨flatP l, false, z⟩, some ⟨flatT ts, false, z1⟩, some ⟨flatN ph, false, z2⟩, some ⟨flatN cs, false, z3⟩, some ⟨flatN ps, false, z4⟩, some ⟨[.slice (some ⟨0, 0, none⟩) l.length c, .slice (some ⟨1, 0, none⟩) ts.length c2, .slice (some ⟨2, 0, none⟩) ph.length c3, .slice (some ⟨3, 0, none⟩) cs.length c4], true, 0⟩, some ⟨[.slice (some ⟨0, 0, none⟩) l.length c, .slice (some ⟨1, 0, none⟩) ts.length c2, .slice (some ⟨8, 0, none⟩) (edL ts).length INF, .map (some 7)], true, 0⟩, some (mpX (lfA ts) true 0), some ⟨flatP (edL ts), true, 2⟩, some ⟨[.pointer (some ⟨6, 0, none⟩), .slice (some ⟨2, 0, none⟩) ph.length c3, .slice (some ⟨3, 0, none⟩) cs.length c4], true, 0⟩]) ((edL ts).length) (by exact ⟨0, rfl, Nat.zero_le _, fun j h => absurd h (by omega), rfl, rfl⟩) ?_); (rintro n' t' m ⟨k, rfl, hk, hj, rfl, rfl⟩); (refine AW.nT ?_)) | refine AW.block ?_ | (refine AW.drawF (id := 12) 7 #[0, 0, 2, 7, 0, 0, 32, 127, 255, 511] kr kr ?_; (conv => (arg 8; simp only [List.take_succ_cons, List.take_zero]))) | (refine AW.region (id := 10) ?_; ((have hq1 := hsr k (by omega); have hq2 := hpbd (pt (sdL ts) k).x (by omega) (by omega); have hq3 := hpbd (pt (sdL ts) k).y (by omega) (by omega)))) | refine AW.region ?_ | (refine AW.conds rfl (fun hc => ?_) (fun hc => ?_) <;> (try replace hc := nc hc) <;> first | (exfalso; first | contradiction | (omega); done) | skip)) | ((with_reducible refine AF.on ?_); first | ((first | ((with_reducible refine AF.k_move ?_); (refine AF.q 0 (SW.q (OQ.move wl) rfl) ?_)) | ((with_reducible refine AF.k_load ?_); (refine AF.ql rfl (SW.q (OQ.load1 (ty := 3) rfl kr (by (conv => lhs; whnf))) rfl) ?_)) | ((with_reducible refine AF.k_call ?_); refine AF.q 2 (SW.pcall (g := 90) rfl kr rfl ((by exact hpo _ _ (by omega) (by omega) _ rfl rfl rfl)) rfl) ?_) | ((with_reducible refine AF.k_indexAddr ?_); refine AF.q 0 (SW.q (OQ.idxPtr (ty := 52) (n := 1) (l := 2) (g := false) rfl rfl kr (by omega) (by omega)) rfl) ?_)); refine AF.nm ?_) | refine AF.nl ?_) | ((with_reducible refine ex_on ?_); (have hb := hp0 k (by assumption); refine ⟨(edL ts).length - (k + 1), [jk, .slice (some ⟨4, 0, none⟩) ps.length c5, jk, jk, jk, jk, .pointer (some ⟨9, 0, none⟩), jk, jk, jk, jk, jk, jk, jk, jk, jk, jk, jk, jk, jk, jk, jk, jk, jk, jk, jk, jk, jk, jk, jk, jk, jk, jk, jk, jk, jk, jk, jk, jk, jk, jk, jk, jk, .int .i64 ((edL ts).length), .int .i64 (((k + 1 : Nat) : Int)), jk, jk, jk, jk, jk, jk, jk, jk, jk, jk, jk, jk, jk, jk, jk, jk, jk, jk, jk, jk, jk, jk, jk, jk, jk, jk, jk, jk, jk, jk, jk, jk, jk], [some ⟨flatP l, false, z⟩, some ⟨flatT ts, false, z1⟩, some ⟨flatN ph, false, z2⟩, some ⟨flatN cs, false, z3⟩, some ⟨flatN ps, false, z4⟩, some ⟨[.slice (some ⟨0, 0, none⟩) l.length c, .slice (some ⟨1, 0, none⟩) ts.length c2, .slice (some ⟨2, 0, none⟩) ph.length c3, .slice (some ⟨3, 0, none⟩) cs.length c4], true, 0⟩, some ⟨[.slice (some ⟨0, 0, none⟩) l.length c, .slice (some ⟨1, 0, none⟩) ts.length c2, .slice (some ⟨8, 0, none⟩) (edL ts).length INF, .map (some 7)], true, 0⟩, some (mpX (lfA ts) true 0), some ⟨flatP (edL ts), true, 2⟩, some ⟨[.pointer (some ⟨6, 0, none⟩), .slice (some ⟨2, 0, none⟩) ph.length c3, .slice (some ⟨3, 0, none⟩) cs.length c4], true, 0⟩], by omega, ?_, k + 1, rfl, by omega, fun j h => (by rcases Nat.lt_or_eq_of_le (Nat.le_of_lt_succ h) with h | rfl; (exact hj j h); exact hb), rfl, rfl⟩; exact Wk.keep 10 [] (by rw [hE]; exact Nat.le_of_ble_eq_true rfl) rfl rfl (by repeat (first | exact RenT.nil | refine RenT.jk ?_ | refine RenT.val (by rfl) (by rfl) ?_)) ⟨kl rfl (flatP_scal l), kl rfl (flatT_scal ts), kl rfl (flatN_scal _), kl rfl (flatN_scal _), kl rfl (flatN_scal _), ki rfl, ki rfl, kl rfl rfl, kl rfl (flatP_scal _), ki rfl, trivial⟩)) | ((with_reducible refine FinJ.on ?_); first | (have hq := e22 k (by omega) hj (hp1 k (by assumption)); rw [v0 (by rw [hq]; decide), hq]; (exact FinJ.ret (.tmp wl (.tmp wl .nil)) (jle_flat rfl))) | (obtain rfl : k = (edL ts).length := (by omega); have hq := e0 hj; rw [vb hq, hq]; (exact FinJ.ret (.tmp wl (.tmp wl .nil)) (jle_flat rfl)))))
 ·have e := e10 h1
  rw [v0 (by rw [e]; decide), e]
  refine PCalls.en 76 Tryz.func44 rfl (ro5p _ _ _ _ _ rfl rfl rfl rfl rfl) rfl (fun E => ?_)
  repeat' (first | with_reducible (first | refine Then.n ?_ | refine Then.r ?_ | refine InB.r ?_) | ((with_reducible refine AL.on ?_); first | ((first | refine AL.mv ?_ | refine AL.as ?_ | ((with_reducible refine AL.k_load ?_); first | refine AL.g (OQ.loadN (ty := 67) (n := 4) rfl kr kr rfl) ?_ | (refine AL.g (OQ.load1 (ty := 103) rfl kr wl) ?_) | (refine AL.g (OQ.load1 (ty := 23) rfl kr wl) ?_)) | ((with_reducible refine AL.k_call ?_); first | refine AL.g (OQ.lenS (xt := 26) (r := (none, 1, false)) rfl kr) ?_ | refine AL.g (OQ.lenS (xt := 23) (r := (none, 3, true)) rfl kr) ?_) | ((with_reducible refine AL.k_fieldAddr ?_); first | refine AL.g (OQ.fieldA (ty := 134) (i := 0) (n := 1) (off := 0) (g := false) rfl kr (by decide)) ?_ | refine AL.g (OQ.fieldA (ty := 110) (i := 0) (n := 2) (off := 0) (g := true) rfl kr (by decide)) ?_ | refine AL.g (OQ.fieldA (ty := 25) (i := 1) (n := 1) (off := 1) (g := false) rfl kr (by decide)) ?_) | ((with_reducible refine AL.k_binOp ?_); refine AL.g (OQ.neq rfl rfl) ?_) | refine AL.et ?_ | refine AL.g (OQ.nilCheck rfl) ?_); refine AL.nm ?_) | ((first | ((with_reducible refine AL.k_call ?_); refine AL.acall (g := 85) rfl kr rfl ((by exact hop _ ⟨⟨_, rfl, rfl, hz, rfl⟩, ⟨_, rfl, rfl, rfl⟩, by decide⟩ _ _ rfl rfl rfl rfl rfl rfl)) ?_) | refine AL.bx ?_); refine AL.nm ?_; refine AL.nM ?_) | refine AL.nil ?_) | ((with_reducible refine AW.on ?_); first | refine AW.seq ?_ | refine AW.ret ?_ | refine AW.block ?_ | refine AW.region ?_ | (refine AW.conds rfl (fun hc => ?_) (fun hc => ?_) <;> (try replace hc := nc hc) <;> first | (exfalso; first | contradiction | (omega); done) | skip)) | ((with_reducible refine FinP.on ?_); (refine FinP.ret (.tmp wl (.tmp wl .nil)) ?_ rfl); (try simp only [pack, List.drop, List.take]); all_goals (rfl)))
def ctE (l : List Pn) (ts : List T3) (ph cs xs : List Int) : Int := if tkE l ts ph cs ≠ 0 then tkE l ts ph cs else tuE ts ph xs
def ctV (l : List Pn) (ts : List T3) (ph cs xs : List Int) : Int := if tkE l ts ph cs ≠ 0 then 0 else ctI ts ph cs xs
def ppE (l : List Pn) (ts : List T3) (ph cs ps : List Int) : Int := if tkE l ts ph cs ≠ 0 then tkE l ts ph cs else poE ts cs ps
def ppV (l : List Pn) (ts : List T3) (ph cs ps : List Int) : Int := if tkE l ts ph cs ≠ 0 then 0 else cpI ts ph cs ps
theorem CheckTurns_q {m : Mem} {bP bT bF bC bX n k j i o c c2 c3 c4 c5 : Nat} {X : Blk} (l : List Pn) (ts : List T3) (ph cs xs : List Int) (hA : ArgT m bP bT bF bC l ts ph cs) (hn : l.length = n) (hk : ts.length = k) (hj : ph.length = j) (hi : cs.length = i) (ho : xs.length = o) (x1 : m.at bX = some X) (x2 : X.cells = flatN xs) (x3 : X.obj = Ob.plain) (hll : l.length ≤ 1000000) (hpl : ph.length ≤ 1000000) (hcl : cs.length ≤ 1000000) (hxl : xs.length ≤ 1000000) :
  PCalls Tryz.prog 42 [.agg #[.slice (some ⟨bP, 0, none⟩) n c, .slice (some ⟨bT, 0, none⟩) k c2, .slice (some ⟨bF, 0, none⟩) j c3, .slice (some ⟨bC, 0, none⟩) i c4], .slice (some ⟨bX, 0, none⟩) o c5] m (.tuple #[.int .i64 (ctV l ts ph cs xs), .int .i64 (ctE l ts ph cs xs)]) := by
 subst hn hk hj hi ho
 obtain ⟨⟨⟨A, a1, a2, h3, a3⟩, ⟨B, b1, b2, b3⟩, _⟩, ⟨F, f1, f2, f3⟩, ⟨C, c1, c2', c3'⟩⟩ := hA
 refine PCalls.viaS [bP, bT, bF, bC, bX] (m0 := [some ⟨flatP l, false, A.esz⟩, some ⟨flatT ts, false, B.esz⟩, some ⟨flatN ph, false, F.esz⟩, some ⟨flatN cs, false, C.esz⟩, some ⟨flatN xs, false, X.esz⟩]) (args0 := [.agg #[.slice (some ⟨0, 0, none⟩) l.length c, .slice (some ⟨1, 0, none⟩) ts.length c2, .slice (some ⟨2, 0, none⟩) ph.length c3, .slice (some ⟨3, 0, none⟩) cs.length c4], .slice (some ⟨4, 0, none⟩) xs.length c5]) (v0 := .tuple #[.int .i64 (ctV l ts ph cs xs), .int .i64 (ctE l ts ph cs xs)]) ?_ (ro5p _ _ _ _ _ rfl rfl rfl rfl rfl)
  ⟨bS a1 a3 a2 (flatP_scal _), bS b1 b3 b2 (flatT_scal _), bS f1 f3 f2 (flatN_scal _), bS c1 c3' c2' (flatN_scal _), bS x1 x3 x2 (flatN_scal _), trivial⟩ rfl rfl rfl rfl
 by_cases he : tkE l ts ph cs = 0
 ·have e1 : ctV l ts ph cs xs = ctI ts ph cs xs := if_neg fun h => h he
  have e2 : ctE l ts ph cs xs = tuE ts ph xs := if_neg fun h => h he
  rw [e1, e2]
  exact CheckTurns_y0 l ts ph cs xs (tkE_0.1 he) hxl c c2 c3 c4 c5 _ _ _ _ _ h3
 ·have e1 : ctV l ts ph cs xs = 0 := if_pos he
  have e2 : ctE l ts ph cs xs = tkE l ts ph cs := if_pos he
  rw [e1, e2]
  exact CheckTurns_e0 l ts ph cs xs he hll hpl hcl c c2 c3 c4 c5 _ _ _ _ _ h3
theorem CheckPotentials_q {m : Mem} {bP bT bF bC bX n k j i o c c2 c3 c4 c5 : Nat} {X : Blk} (l : List Pn) (ts : List T3) (ph cs ps : List Int) (hA : ArgT m bP bT bF bC l ts ph cs) (hn : l.length = n) (hk : ts.length = k) (hj : ph.length = j) (hi : cs.length = i) (ho : ps.length = o) (x1 : m.at bX = some X) (x2 : X.cells = flatN ps) (x3 : X.obj = Ob.plain) (hll : l.length ≤ 1000000) (hpl : ph.length ≤ 1000000) (hcl : cs.length ≤ 1000000) (hxl : ps.length ≤ 1000000) :
  PCalls Tryz.prog 44 [.agg #[.slice (some ⟨bP, 0, none⟩) n c, .slice (some ⟨bT, 0, none⟩) k c2, .slice (some ⟨bF, 0, none⟩) j c3, .slice (some ⟨bC, 0, none⟩) i c4], .slice (some ⟨bX, 0, none⟩) o c5] m (.tuple #[.int .i64 (ppV l ts ph cs ps), .int .i64 (ppE l ts ph cs ps)]) := by
 subst hn hk hj hi ho
 obtain ⟨⟨⟨A, a1, a2, h3, a3⟩, ⟨B, b1, b2, b3⟩, _⟩, ⟨F, f1, f2, f3⟩, ⟨C, c1, c2', c3'⟩⟩ := hA
 refine PCalls.viaS [bP, bT, bF, bC, bX] (m0 := [some ⟨flatP l, false, A.esz⟩, some ⟨flatT ts, false, B.esz⟩, some ⟨flatN ph, false, F.esz⟩, some ⟨flatN cs, false, C.esz⟩, some ⟨flatN ps, false, X.esz⟩]) (args0 := [.agg #[.slice (some ⟨0, 0, none⟩) l.length c, .slice (some ⟨1, 0, none⟩) ts.length c2, .slice (some ⟨2, 0, none⟩) ph.length c3, .slice (some ⟨3, 0, none⟩) cs.length c4], .slice (some ⟨4, 0, none⟩) ps.length c5]) (v0 := .tuple #[.int .i64 (ppV l ts ph cs ps), .int .i64 (ppE l ts ph cs ps)]) ?_ (ro5p _ _ _ _ _ rfl rfl rfl rfl rfl)
  ⟨bS a1 a3 a2 (flatP_scal _), bS b1 b3 b2 (flatT_scal _), bS f1 f3 f2 (flatN_scal _), bS c1 c3' c2' (flatN_scal _), bS x1 x3 x2 (flatN_scal _), trivial⟩ rfl rfl rfl rfl
 by_cases he : tkE l ts ph cs = 0
 ·have e1 : ppV l ts ph cs ps = cpI ts ph cs ps := if_neg fun h => h he
  have e2 : ppE l ts ph cs ps = poE ts cs ps := if_neg fun h => h he
  rw [e1, e2]
  exact CheckPotentials_y0 l ts ph cs ps (tkE_0.1 he) hxl c c2 c3 c4 c5 _ _ _ _ _ h3
 ·have e1 : ppV l ts ph cs ps = 0 := if_pos he
  have e2 : ppE l ts ph cs ps = tkE l ts ph cs := if_pos he
  rw [e1, e2]
  exact CheckPotentials_e0 l ts ph cs ps he hll hpl hcl c c2 c3 c4 c5 _ _ _ _ _ h3
end Go.Proofs.YtmohcmghbfhdlaaGreat
end
end
/- The small memory: 'm[k] = v' in two halves (an entry first, then what is put into it). -/
section
set_option linter.unusedSimpArgs false
set_option linter.unusedVariables false
namespace Go
open Go.RowKit
namespace Ab
section
variable {P : Program} {t : T} {m : Mem} {dst : Option Tmp} {ty rt kt et : TypeId} {pos : String} {after : Array Edge} {guard : Option (Nat × Bool)} {x y z : Operand} {b : Nat} {es : Array MapEntry} {clk : Nat} {ez : Nat} {cs : List Value} {isk : Value → Prop} {kv v : Value}
end
section
variable {κ : Type} {enc : κ → Value} {ok : κ → Prop} {P : Program} {t : T} {m : Mem} {dst : Option Tmp} {ty rt kt et : TypeId} {pos : String} {after : Array Edge} {guard : Option (Nat × Bool)} {x y z : Operand} {b : Nat} {l : List (κ × Value)} {k : κ} {v : Value}
end
section
variable {P : Program} {E : Env} {l : List Oper} {bits : Array Nat} {n : Nat} {Q : Post} {m0 : Mem} {ops : List Oper} {t : T} {m : Mem} {sps : List Sp} {v : Value}
theorem AF.n2 {o : Oper} (nm : Nat) {x y : Blk} (h : SW P E l.toArray o (onlyF (o.looksAt l.toArray) 0 t) (maskF (vis bits m0.length (own0 m0) sps sps.length nm) none 0 m) v (maskF (vis bits m0.length (own0 m0) sps sps.length nm) none 0 m ++ [some x, some y])) (hx : x.own = true) (hy : y.own = true)
  (hr : AF P E l bits n Q m0 ops (t.put o.dst v) (m ++ [some x, some y]) (sps ++ [(none, 2, nm)])) : AF P E l bits n Q m0 (o :: ops) t m sps :=
 AF.nn nm [x, y] h rfl (by simp [hx, hy]) rfl hr
theorem AF.n4 {o : Oper} (nm : Nat) {x y z u : Blk} (h : SW P E l.toArray o (onlyF (o.looksAt l.toArray) 0 t) (maskF (vis bits m0.length (own0 m0) sps sps.length nm) none 0 m) v (maskF (vis bits m0.length (own0 m0) sps sps.length nm) none 0 m ++ [some x, some y, some z, some u])) (hx : x.own = true) (hy : y.own = true) (hz : z.own = true) (hu : u.own = true)
  (hr : AF P E l bits n Q m0 ops (t.put o.dst v) (m ++ [some x, some y, some z, some u]) (sps ++ [(none, 4, nm)])) : AF P E l bits n Q m0 (o :: ops) t m sps :=
 AF.nn nm [x, y, z, u] h rfl (by simp [hx, hy, hz, hu]) rfl hr
end
end Ab
end Go
end
/- Calls that only read rows of cells, of which some may be empty and lie nowhere, in a greater memory. -/
section
set_option linter.unusedSimpArgs false
set_option linter.unusedVariables false
namespace Go
namespace Ab
open Go.RowKit Go.Ls
def Row (m : Mem) (t : Nat) (cs : List Value) : Prop := ∃ y, m.at t = some y ∧ y.obj = Ob.plain ∧ y.esz = 0 ∧ ∀ (i : Nat) v, cs[i]? = some v → y.cells[i]? = some v
def rowM (css : List (List Value)) : Mem := css.map fun cs => some ⟨cs, false, 0⟩
theorem rowM_at {css : List (List Value)} {b : Nat} {blk : Blk} (h : (rowM css).at b = some blk) : ∃ cs, css[b]? = some cs ∧ blk = ⟨cs, false, 0⟩ := by
 unfold rowM Mem.at at h
 rw [List.getD_eq_getElem?_getD, List.getElem?_map] at h
 cases hc : css[b]? with
 | none => rw [hc] at h; cases h
 | some cs => rw [hc] at h; cases h; exact ⟨cs, rfl, rfl⟩
theorem rowM_of {css : List (List Value)} {b : Nat} (h : b < css.length) : (rowM css).at b = some ⟨css[b], false, 0⟩ := by
 unfold rowM Mem.at
 rw [List.getD_eq_getElem?_getD, List.getElem?_map, List.getElem?_eq_getElem h]
 rfl
theorem rowM_len (css : List (List Value)) : (rowM css).length = css.length := List.length_map _
theorem ok1_of {n : Nat} {cs : List Value} (h : cs.all scal = true) : cs.all (ok1 n) = true := List.all_eq_true.2 fun v hv => ok1_scal (List.all_eq_true.1 h v hv)
theorem rnB_of {κ : Nat → Nat} {b : Blk} (h : b.cells.all scal = true) (ho : b.obj = Ob.plain) : rnB κ b = b := by
 obtain @⟨c, o, e, ob⟩ := b
 simp only at h ho
 subst ho
 unfold rnB
 rw [rn1_all h] <;> rfl
theorem ACalls.viaR {P : Program} {f : FuncId} {args0 args : List Value} {m ns : Mem} {v0 v : Value} (css : List (List Value)) (ts : List Nat) (h : ACalls P f args0 (rowM css) v0 (rowM css ++ ns))
  (hr : ∀ (k : Nat) cs, css[k]? = some cs → cs.all scal = true ∧ Row m (ts.getD k 0) cs) (hns : ∀ (j : Nat) blk, ns.at j = some blk → blk.own = true ∧ blk.cells.all scal = true ∧ blk.obj = Ob.plain)
  (hargs : args0.map (rn3 fun b => ts.getD b 0) = args) (hk : args0.all (ok3 css.length) = true) (hv : rn3 (τn (fun b => ts.getD b 0) css.length m.length) v0 = v) (hkv : ok3 (css.length + ns.length) v0 = true) : ACalls P f args m v (m ++ ns) := by
 have hl := rowM_len css
 refine ACalls.via (k := ns.length) (fun b => ts.getD b 0) h ⟨fun b hb => ?_, fun b blk hb => ?_, fun b blk hb => ?_, fun b b' blk hb ho _ _ => ?_⟩ ⟨by simp, by simp, fun b hb _ => ?_, fun c blk hc ho => ?_, fun c blk hc _ => ?_, fun j hj => ?_, fun c blk hc ho => ?_, fun c blk hc ho => ?_⟩ hargs (by rw [hl]; exact hk) (by rw [hl]; exact hv) (by rw [List.length_append, hl]; exact hkv)
 ·exact ⟨_, rowM_of (by omega)⟩
 ·obtain ⟨cs, h1, rfl⟩ := rowM_at hb
  exact ok1_of (hr b cs h1).1
 ·obtain ⟨cs, h1, rfl⟩ := rowM_at hb
  obtain ⟨h2, y, h3, h4, h5, h6⟩ := hr b cs h1
  refine ⟨y, h3, by unfold Blk.shp Blk.shpR; rw [h4, h5]; rfl, (fun h => nomatch h), fun i v hv => ?_⟩
  have h7 := List.all_eq_true.1 h2 v (List.mem_of_getElem? hv)
  rw [rn1_scal h7]
  exact h6 i v hv
 ·obtain ⟨cs, h1, rfl⟩ := rowM_at hb
  exact nomatch ho
 ·exact at_app_left hb
 ·obtain ⟨cs, h1, rfl⟩ := rowM_at hc
  exact nomatch ho
 ·have hlt := Mem.at_lt hc
  obtain ⟨cs, h1, rfl⟩ := rowM_at hc
  exact ⟨_, (at_app_left hlt).trans hc, rfl⟩
 ·rw [at_app_right, at_app_right]
  cases hb : ns.at j with
  | none => rfl
  | some blk =>
   obtain ⟨_, h2, h3⟩ := hns j blk hb
   rw [Option.map_some, rnB_of h2 h3]
 ·by_cases hcl : c < (rowM css).length
  ·obtain ⟨b0, h1, h2⟩ := ho hcl
   obtain ⟨cs, _, rfl⟩ := rowM_at h1
   exact nomatch h2
  ·obtain ⟨j, rfl⟩ : ∃ j, c = (rowM css).length + j := ⟨c - (rowM css).length, by omega⟩
   rw [at_app_right] at hc
   exact (hns j blk hc).1
 ·by_cases hcl : c < (rowM css).length
  ·rw [at_app_left hcl] at hc
   obtain ⟨cs, _, rfl⟩ := rowM_at hc
   exact nomatch ho
  ·obtain ⟨j, rfl⟩ : ∃ j, c = (rowM css).length + j := ⟨c - (rowM css).length, by omega⟩
   rw [at_app_right] at hc
   exact ok1_of (hns j blk hc).2.1
theorem rn1_ids (xs : List Value) : xs.map (rn1 fun b => b) = xs := by
 induction xs with
 | nil => rfl
 | cons v vs ih => rw [List.map_cons, rn1_idf, ih]
theorem rn2_idf (v : Value) : rn2 (fun b => b) v = v := by
 unfold rn2
 split
 ·rw [rn1_ids]
 ·exact rn1_idf _
theorem rn2_ids (xs : List Value) : xs.map (rn2 fun b => b) = xs := by
 induction xs with
 | nil => rfl
 | cons v vs ih => rw [List.map_cons, rn2_idf, ih]
theorem rn3_idf (v : Value) : rn3 (fun b => b) v = v := by
 unfold rn3
 split
 ·rw [rn2_ids]
 ·rw [rn2_ids, rn2_ids]
 ·exact rn2_idf _
theorem rn3_ids (xs : List Value) : xs.map (rn3 fun b => b) = xs := by
 induction xs with
 | nil => rfl
 | cons v vs ih => rw [List.map_cons, rn3_idf, ih]
theorem PCalls.blx {P : Program} {f : FuncId} {args : List Value} {m : Mem} {v : Value} (css : List (List Value)) (h : PCalls P f args (css.map blX) v) (hs : ∀ (k : Nat) cs, css[k]? = some cs → cs.all scal = true ∧ m.at k = blX cs)
  (hk : args.all (ok3 css.length) = true) (hkv : ok3 css.length v = true) : PCalls P f args m v := by
 have hl : (css.map blX).length = css.length := List.length_map _
 refine PCalls.wide h (fun b blk hb => ?_) (rn3_ids args) (by rw [hl]; exact hk) (rn3_idf v) (by rw [hl]; exact hkv)
 unfold Mem.at at hb
 rw [List.getD_eq_getElem?_getD, List.getElem?_map] at hb
 cases hc : css[b]? with
 | none => rw [hc] at hb; cases hb
 | some cs =>
  rw [hc] at hb
  have hb : blX cs = some blk := hb
  obtain ⟨h1, h2⟩ := hs b cs hc
  have h3 : blk = ⟨cs, false, 0⟩ := by
   unfold blX at hb
   split at hb
   ·cases hb
   ·cases hb; rfl
  subst h3
  exact ⟨rfl, ok1_of h1, _, h2.trans hb, rfl, rfl⟩
theorem ACalls.conv {P : Program} {f : FuncId} {args args2 : List Value} {m mE : Mem} {v : Value} (h : ACalls P f args m v mE) (hc : ∀ (ρ : Ren) x, VRel ρ (.tuple args2.toArray) x → VRel ρ (.tuple args.toArray) x) : ACalls P f args2 m v mE := fun E ρ args' w hrel hst => h E ρ args' w (hc ρ _ hrel) hst
end Ab
end Go
end
