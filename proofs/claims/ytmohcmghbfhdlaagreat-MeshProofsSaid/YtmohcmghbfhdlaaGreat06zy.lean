/- MeshProofs: which tasks are right, and which turns and potentials are accepted, are as specified, or the errors, for any ones; no turns cost less than a bound. -/
import Derived.Test.YtmohcmghbfhdlaaGreatQd
import Derived.Test.YtmohcmghbfhdlaaGreatRows
import Derived.Test.YtmohcmghbfhdlaaGreatQi
import Derived.Test.YtmohcmghbfhdlaaGreatQu
import Derived.Test.YtmohcmghbfhdlaaGreatRc
set_option linter.unusedSimpArgs false
set_option linter.unusedVariables false
section
namespace Go.Me
open Go.Ab Go.Proofs.YtmohcmghbfhdlaaGreat
theorem ro_bl6 (a b c d e f : List Value) : Mem.ro [Ls.blX a, Ls.blX b, Ls.blX c, Ls.blX d, Ls.blX e, Ls.blX f] := fun k blk hk => by
 match k, hk with
 | 0, hk => exact Ls.blX_ro a _ hk
 | 1, hk => exact Ls.blX_ro b _ hk
 | 2, hk => exact Ls.blX_ro c _ hk
 | 3, hk => exact Ls.blX_ro d _ hk
 | 4, hk => exact Ls.blX_ro e _ hk
 | 5, hk => exact Ls.blX_ro f _ hk
 | k + 6, hk => simp [Mem.at] at hk
theorem blX_map (cs : List Value) : (Ls.blX cs).map (fun b => { b with own := false }) = Ls.blX cs := by
 unfold Ls.blX
 split <;> rfl
theorem SlV.any {m : Mem} {i n : Nat} {v : Value} {cs : List Value} (h : SlV m i v cs n) : ∃ xa c, v = .slice xa n c := by
 rcases h with ⟨k, h0, h1, h2, h3, h4⟩ | ⟨h1, h2⟩ | ⟨h1, h2⟩
 ·exact ⟨_, _, h1⟩
 ·exact ⟨none, 0, by rw [h1]; exact h2⟩
 ·exact ⟨_, 0, by rw [h1]; exact h2⟩
theorem ct_w {ts : List T3} {ph cs xs ps : List Int} (h : tuE ts ph xs = 0) (h2 : poE ts cs ps = 0) : cpI ts ph cs ps ≤ ctI ts ph cs xs := by
 unfold cpI ctI
 rw [if_neg (fun h3 => h3 h2), if_neg (fun h3 => h3 h)]
 exact weak h h2
end Go.Me
namespace Go.Proofs.YtmohcmghbfhdlaaGreat
open Go Go.RowKit Go.Ab Go.Me
set_option maxRecDepth 100000
set_option maxHeartbeats 4000000
attribute [local irreducible] OQ OW AL AW AF SW
theorem MeshProofs_f (v w u x : Value) (xb xc : Option Addr) (cb cc nb nc : Nat) (B0 : Bool) (o0 o1 o2 o3 o4 o5 : Option Blk) (hr : Mem.ro [o0, o1, o2, o3, o4, o5]) (hS : ∀ m : Mem, m.at 0 = o0 → m.at 1 = o1 → m.at 2 = o2 → m.at 3 = o3 → PCalls Tryz.prog 40 [.agg #[v, w, u, x]] m (.bool B0)) (hf : B0 = true → 30 < nb ∨ 30 < nc) :
  PCalls Tryz.prog 8 [.agg #[v, w, u, x], .agg #[.slice xb nb cb, .slice xc nc cc]] [o0, o1, o2, o3, o4, o5] (.bool true) := by
 refine PCalls.en 116 Tryz.func8 rfl (hr) rfl (fun E => ?_)
 repeat' (first | with_reducible (first | refine Then.n ?_ | refine Then.r ?_) | ((with_reducible refine AL.on ?_); first | (refine AL.gd rfl ?_; (refine AL.gs0 rfl rfl (fun hc => ?_) (fun hc => ?_) <;> (try replace hc := nc hc) <;> first | (exfalso; contradiction) | refine AL.nm ?_)) | ((first | refine AL.mv ?_ | refine AL.as ?_ | ((with_reducible refine AL.k_call ?_); refine AL.g (OQ.lenS (xt := 26) (r := (none, 1, false)) rfl kr) ?_) | ((with_reducible refine AL.k_binOp ?_); refine AL.g (OQ.gtr rfl rfl) ?_) | ((with_reducible refine AL.k_load ?_); first | refine AL.g (OQ.loadN (ty := 67) (n := 4) rfl kr kr rfl) ?_ | (refine AL.g (OQ.load1 (ty := 26) rfl kr wl) ?_)) | ((with_reducible refine AL.k_pick ?_); first | refine AL.pT ?_ | refine AL.pF ?_) | ((with_reducible refine AL.k_fieldAddr ?_); first | refine AL.g (OQ.fieldA (ty := 69) (i := 0) (n := 1) (off := 0) (g := false) rfl kr (by decide)) ?_ | refine AL.g (OQ.fieldA (ty := 69) (i := 1) (n := 1) (off := 1) (g := false) rfl kr (by decide)) ?_) | ((with_reducible refine AL.k_unOp ?_); refine AL.g (OQ.not rfl) ?_)); refine AL.nm ?_) | ((first | refine AL.pcall (g := 12) rfl kr rfl ((by exact awake_q _)) ?_ | refine AL.pcall (g := 40) rfl kr rfl ((by exact hS _ rfl rfl rfl rfl)) ?_); refine AL.nm ?_) | ((refine AL.bx ?_); refine AL.nm ?_; refine AL.nM ?_) | refine AL.nil ?_) | ((with_reducible refine AW.on ?_); first | refine AW.seq ?_ | refine AW.skip ?_ | refine AW.ret ?_ | refine AW.region ?_ | (refine AW.conds rfl (fun hc => ?_) (fun hc => ?_) <;> (try replace hc := nc hc) <;> first | (exfalso; first | contradiction | ((simp at *; have := hf ‹_›; omega)); done) | skip)) | ((with_reducible refine FinP.on ?_); (refine FinP.ret (.tmp wl .nil) ?_ rfl); (try simp only [pack, List.drop, List.take]); all_goals (rfl)))
theorem rCheckPot_l6 (v u x : Value) (n : Nat) (xa : Option Addr) (c d : Nat) (ps : List Int) (hp : ps.length ≤ 1000000) (hn2 : n ≤ 1000000) (hn : ps.length ≠ n) (o0 o1 o2 o3 o4 o5 : Option Blk) (hr : Mem.ro [o0, o1, o2, o3, o4, o5]) :
  PCalls Tryz.prog 47 [.agg #[v, .slice (some ⟨1, 0, none⟩) n c, u, x], .slice xa ps.length d] [o0, o1, o2, o3, o4, o5] (.tuple #[.int .i64 0, .int .i64 10]) := by
 refine PCalls.en 83 Tryz.func47 rfl (hr) rfl (fun E => ?_)
 repeat' (first | with_reducible (first | refine Then.n ?_ | refine Then.r ?_) | ((with_reducible refine AL.on ?_); first | ((first | refine AL.mv ?_ | refine AL.as ?_ | ((with_reducible refine AL.k_call ?_); first | refine AL.g (OQ.lenS (xt := 26) (r := (none, 1, false)) rfl kr) ?_ | refine AL.g (OQ.lenS (xt := 23) (r := (none, 3, true)) rfl kr) ?_) | ((with_reducible refine AL.k_load ?_); (refine AL.g (OQ.load1 (ty := 23) rfl kr wl) ?_)) | ((with_reducible refine AL.k_binOp ?_); refine AL.g (OQ.neq rfl rfl) ?_) | ((with_reducible refine AL.k_fieldAddr ?_); first | refine AL.g (OQ.fieldA (ty := 67) (i := 0) (n := 2) (off := 0) (g := true) rfl kr (by decide)) ?_ | refine AL.g (OQ.fieldA (ty := 25) (i := 1) (n := 1) (off := 1) (g := false) rfl kr (by decide)) ?_)); refine AL.nm ?_) | ((refine AL.bx ?_); refine AL.nm ?_; refine AL.nM ?_) | refine AL.nil ?_) | ((with_reducible refine AW.on ?_); first | refine AW.seq ?_ | refine AW.ret ?_ | refine AW.region ?_ | (refine AW.conds rfl (fun hc => ?_) (fun hc => ?_) <;> (try replace hc := nc hc) <;> first | (exfalso; ((omega); done)) | skip)) | ((with_reducible refine FinP.on ?_); (refine FinP.ret (.tmp wl (.tmp wl .nil)) ?_ rfl); (try simp only [pack, List.drop, List.take]); all_goals (rfl)))
structure Cal (l : List Pn) (ts : List T3) (ph cs xs ps : List Int) (TK CV CE PV PE : Int) : Prop where
 turns : ∀ (m : Mem) (bP bT bF bC bX : Nat) (c c2 c3 c4 c5 : Nat) (X : Blk), ArgT m bP bT bF bC l ts ph cs → m.at bX = some X → X.cells = flatN xs → X.obj = Ob.plain → PCalls Tryz.prog 42 [.agg #[.slice (some ⟨bP, 0, none⟩) l.length c, .slice (some ⟨bT, 0, none⟩) ts.length c2, .slice (some ⟨bF, 0, none⟩) ph.length c3, .slice (some ⟨bC, 0, none⟩) cs.length c4], .slice (some ⟨bX, 0, none⟩) xs.length c5] m (.tuple #[.int .i64 CV, .int .i64 CE])
 pots : ∀ (m : Mem) (bP bT bF bC bX : Nat) (c c2 c3 c4 c5 : Nat) (X : Blk), ArgT m bP bT bF bC l ts ph cs → m.at bX = some X → X.cells = flatN ps → X.obj = Ob.plain → PCalls Tryz.prog 44 [.agg #[.slice (some ⟨bP, 0, none⟩) l.length c, .slice (some ⟨bT, 0, none⟩) ts.length c2, .slice (some ⟨bF, 0, none⟩) ph.length c3, .slice (some ⟨bC, 0, none⟩) cs.length c4], .slice (some ⟨bX, 0, none⟩) ps.length c5] m (.tuple #[.int .i64 PV, .int .i64 PE])
 task : ∀ (m : Mem) (bP bT bF bC : Nat) (c c2 c3 c4 : Nat), ArgT m bP bT bF bC l ts ph cs → PCalls Tryz.prog 45 [.agg #[.slice (some ⟨bP, 0, none⟩) l.length c, .slice (some ⟨bT, 0, none⟩) ts.length c2, .slice (some ⟨bF, 0, none⟩) ph.length c3, .slice (some ⟨bC, 0, none⟩) cs.length c4]] m (.int .i64 TK)
theorem MeshProofs_y (l : List Pn) (ts : List T3) (ph cs xs ps : List Int) (v w u x s p : Value) (xs1 xp1 : Option Addr) (c1 c2 : Nat) (hs : s = .slice xs1 xs.length c1) (hp : p = .slice xp1 ps.length c2) (o0 o1 o2 o3 o4 o5 : Option Blk) (hr : Mem.ro [o0, o1, o2, o3, o4, o5]) (TK CV CE PV PE : Int) (hZ : ¬ TK = 0 → CV = 0 ∧ CE = TK ∧ PV = 0 ∧ PE = TK) (hW : TK = 0 → CE = 0 → PE = 0 → PV ≤ CV) (h1 : xs.length ≤ 30) (h2 : ps.length ≤ 30)
  (m0 : o0.map (fun b => { b with own := false }) = o0) (m1 : o1.map (fun b => { b with own := false }) = o1) (m2 : o2.map (fun b => { b with own := false }) = o2) (m3 : o3.map (fun b => { b with own := false }) = o3) (m4 : o4.map (fun b => { b with own := false }) = o4) (m5 : o5.map (fun b => { b with own := false }) = o5)
  (hS : ∀ m : Mem, m.at 0 = o0 → m.at 1 = o1 → m.at 2 = o2 → m.at 3 = o3 → PCalls Tryz.prog 40 [.agg #[v, w, u, x]] m (.bool true))
  (hK : ∀ m : Mem, m.at 0 = o0 → m.at 1 = o1 → m.at 2 = o2 → m.at 3 = o3 → Row m 6 [] → ACalls Tryz.prog 43 [.agg #[v, w, u, x]] m (.agg #[.slice (some ⟨m.length, 0, none⟩) l.length (cpC l.length), .slice (some ⟨m.length + 1, 0, none⟩) ts.length (cpC ts.length), .slice (some ⟨m.length + 2, 0, none⟩) ph.length (cpC ph.length), .slice (some ⟨m.length + 3, 0, none⟩) cs.length (cpC cs.length)]) (m ++ ctM l ts ph cs))
  (hI : ∀ m : Mem, m.at 4 = o4 → ACalls Tryz.prog 16 [s] m (.slice (some ⟨m.length, 0, none⟩) xs.length (cpC xs.length)) (m ++ [some ⟨flatN xs, true, 1⟩]))
  (hJ : ∀ m : Mem, m.at 5 = o5 → ACalls Tryz.prog 16 [p] m (.slice (some ⟨m.length, 0, none⟩) ps.length (cpC ps.length)) (m ++ [some ⟨flatN ps, true, 1⟩]))
  (hrT : ∀ m : Mem, m.at 0 = o0 → m.at 1 = o1 → m.at 2 = o2 → m.at 3 = o3 → PCalls Tryz.prog 41 [.agg #[v, w, u, x]] m (.int .i64 TK))
  (hrC : TK = 0 → ∀ m : Mem, m.at 0 = o0 → m.at 1 = o1 → m.at 2 = o2 → m.at 3 = o3 → m.at 4 = o4 → PCalls Tryz.prog 46 [.agg #[v, w, u, x], s] m (.tuple #[.int .i64 CV, .int .i64 CE]))
  (hrP : TK = 0 → ∀ m : Mem, m.at 0 = o0 → m.at 1 = o1 → m.at 2 = o2 → m.at 3 = o3 → m.at 4 = o4 → m.at 5 = o5 → PCalls Tryz.prog 47 [.agg #[v, w, u, x], p] m (.tuple #[.int .i64 PV, .int .i64 PE]))
  (hC : Cal l ts ph cs xs ps TK CV CE PV PE) :
  PCalls Tryz.prog 8 [.agg #[v, w, u, x], .agg #[s, p]] [o0, o1, o2, o3, o4, o5] (.bool true) := by
 subst hs hp
 obtain ⟨hT, hP, hQ⟩ := hC
 refine PCalls.en 116 Tryz.func8 rfl (hr) rfl (fun E => ?_)
 repeat' (first | with_reducible (first | refine Then.n ?_ | refine Then.r ?_) | ((with_reducible refine AL.on ?_); first | (refine AL.gd rfl ?_; first | (refine AL.gs1 rfl rfl (fun hc => ?_) (fun hc => ?_) <;> (try replace hc := nc hc) <;> first | (exfalso; first | contradiction | (omega); done) | refine AL.nm ?_) | (refine AL.gs0 rfl rfl (fun hc => ?_) (fun hc => ?_) <;> (try replace hc := nc hc) <;> first | (exfalso; first | contradiction | (omega); done) | refine AL.nm ?_)) | ((first | refine AL.mv ?_ | refine AL.as ?_ | ((with_reducible refine AL.k_call ?_); refine AL.g (OQ.lenS (xt := 26) (r := (none, 1, false)) rfl kr) ?_) | ((with_reducible refine AL.k_binOp ?_); first | refine AL.g (OQ.gtr rfl rfl) ?_ | refine AL.g (OQ.neq rfl rfl) ?_ | refine AL.g (OQ.eql rfl rfl) ?_ | refine AL.g (OQ.leq rfl rfl) ?_) | ((with_reducible refine AL.k_load ?_); first | refine AL.g (OQ.loadN (ty := 67) (n := 4) rfl kr kr rfl) ?_ | (refine AL.g (OQ.load1 (ty := 26) rfl kr wl) ?_)) | ((with_reducible refine AL.k_pick ?_); first | refine AL.pT ?_ | refine AL.pF ?_) | refine AL.et ?_ | ((with_reducible refine AL.k_fieldAddr ?_); first | refine AL.g (OQ.fieldA (ty := 69) (i := 0) (n := 1) (off := 0) (g := false) rfl kr (by decide)) ?_ | refine AL.g (OQ.fieldA (ty := 69) (i := 1) (n := 1) (off := 1) (g := false) rfl kr (by decide)) ?_) | ((with_reducible refine AL.k_unOp ?_); refine AL.g (OQ.not rfl) ?_)); refine AL.nm ?_) | ((first | refine AL.pcall (g := 12) rfl kr rfl ((by exact awake_q _)) ?_ | refine AL.pcall (g := 40) rfl kr rfl ((by exact hS _ rfl rfl rfl rfl)) ?_ | refine AL.pcall (g := 41) rfl kr rfl ((by exact hrT _ rfl rfl rfl rfl)) ?_ | refine AL.pcall (g := 45) rfl kr rfl ((by exact hQ _ _ _ _ _ _ _ _ _ ⟨⟨⟨_, rfl, rfl, .inr rfl, rfl⟩, ⟨_, rfl, rfl, rfl⟩, by decide⟩, ⟨_, rfl, rfl, rfl⟩, ⟨_, rfl, rfl, rfl⟩⟩)) ?_ | refine AL.pcall (g := 46) rfl kr rfl ((by exact hrC (by assumption) _ rfl rfl rfl rfl rfl)) ?_ | refine AL.pcall (g := 47) rfl kr rfl ((by exact hrP (by assumption) _ rfl rfl rfl rfl rfl rfl)) ?_); refine AL.nm ?_) | ((first | ((with_reducible refine AL.k_call ?_); refine AL.acall (g := 43) rfl kr rfl ((by exact hK _ rfl rfl rfl rfl ⟨_, rfl, rfl, rfl, fun i v h => by simp at h⟩)) ?_) | refine AL.bx ?_); refine AL.nm ?_; refine AL.nM ?_) | refine AL.nil ?_) | ((with_reducible refine AW.on ?_); first | refine AW.seq ?_ | refine AW.skip ?_ | refine AW.ret ?_ | (refine AW.drawF (id := 6) 10 #[0, 1, 0, 4, 15, 31, 63, 127, 127, 255, 1023] kr kr ?_; (conv => (arg 8; simp only [List.take_succ_cons, List.take_zero]))) | (refine AW.drawF (id := 7) 10 #[0, 1, 0, 4, 15, 31, 63, 127, 127, 255, 1023] kr kr ?_; (conv => (arg 8; simp only [List.take_succ_cons, List.take_zero]))) | (refine AW.region (id := 11) ?_; ((have hz := hZ (by assumption)))) | (refine AW.region (id := 14) ?_; ((have hz := hW (by assumption)))) | refine AW.region ?_ | (refine AW.conds rfl (fun hc => ?_) (fun hc => ?_) <;> (try replace hc := nc hc) <;> first | (exfalso; first | contradiction | (omega); done) | skip)) | ((with_reducible refine AF.on ?_); first | ((first | ((with_reducible refine AF.k_move ?_); (refine AF.q 0 (SW.q (OQ.move wl) rfl) ?_)) | ((with_reducible refine AF.k_assign ?_); (refine AF.q 0 (SW.q (OQ.assign wl) rfl) ?_)) | ((with_reducible refine AF.k_call ?_); first | refine AF.q 2 (SW.pcall (g := 42) rfl kr rfl ((by exact hT _ _ _ _ _ _ _ _ _ _ _ _ ⟨⟨⟨_, rfl, rfl, .inr rfl, rfl⟩, ⟨_, rfl, rfl, rfl⟩, by decide⟩, ⟨_, rfl, rfl, rfl⟩, ⟨_, rfl, rfl, rfl⟩⟩ rfl rfl rfl)) rfl) ?_ | refine AF.q 2 (SW.pcall (g := 44) rfl kr rfl ((by exact hP _ _ _ _ _ _ _ _ _ _ _ _ ⟨⟨⟨_, rfl, rfl, .inr rfl, rfl⟩, ⟨_, rfl, rfl, rfl⟩, by decide⟩, ⟨_, rfl, rfl, rfl⟩, ⟨_, rfl, rfl, rfl⟩⟩ rfl rfl rfl)) rfl) ?_) | ((with_reducible refine AF.k_load ?_); first | refine AF.ql rfl (SW.q (OQ.loadN (ty := 67) (n := 4) rfl kr kr rfl) rfl) ?_ | (refine AF.ql rfl (SW.q (OQ.load1 (ty := 26) rfl kr wl) rfl) ?_)) | ((with_reducible refine AF.k_extract ?_); refine AF.q 0 (SW.q (OQ.extract rfl rfl) rfl) ?_) | ((with_reducible refine AF.k_fieldAddr ?_); first | refine AF.q 0 (SW.q (OQ.fieldA (ty := 69) (i := 0) (n := 1) (off := 0) (g := false) rfl kr (by decide)) rfl) ?_ | refine AF.q 0 (SW.q (OQ.fieldA (ty := 69) (i := 1) (n := 1) (off := 1) (g := false) rfl kr (by decide)) rfl) ?_)); refine AF.nm ?_) | ((first | refine AF.n4 2 (SW.acall (g := 43) rfl kr rfl ((by exact hK _ m0 m1 m2 m3 ⟨_, rfl, rfl, rfl, fun i v h => by simp at h⟩)) rfl) rfl rfl rfl rfl ?_ | refine AF.n1 2 (SW.acall (g := 16) rfl kr rfl ((by first | exact hI _ m4 | exact hJ _ m5)) rfl) rfl ?_); refine AF.nm ?_; (conv => (arg 10; try tactic => exact nrmF))) | refine AF.nl ?_) | ((with_reducible refine FinP.on ?_); (refine FinP.ret (.tmp wl .nil) ?_ rfl); (try simp only [pack, List.drop, List.take]); all_goals ((rw [decide_eq_true (by omega)]))))
theorem cal_of (l : List Pn) (ts : List T3) (ph cs xs ps : List Int) (hl : l.length ≤ 1000000) (hp : ph.length ≤ 1000000) (hc : cs.length ≤ 1000000) (hx : xs.length ≤ 1000000) (hq : ps.length ≤ 1000000) : Cal l ts ph cs xs ps (tkE l ts ph cs) (ctV l ts ph cs xs) (ctE l ts ph cs xs) (ppV l ts ph cs ps) (ppE l ts ph cs ps) :=
 ⟨fun m bP bT bF bC bX c c2 c3 c4 c5 X hA x1 x2 x3 => CheckTurns_q l ts ph cs xs hA rfl rfl rfl rfl rfl x1 x2 x3 hl hp hc hx, fun m bP bT bF bC bX c c2 c3 c4 c5 X hA x1 x2 x3 => CheckPotentials_q l ts ph cs ps hA rfl rfl rfl rfl rfl x1 x2 x3 hl hp hc hq, fun m bP bT bF bC c c2 c3 c4 hA => CheckTask_q l ts ph cs hA rfl rfl rfl rfl hl hp hc⟩
theorem MeshProofs_q (v w u x s p : Value) (l : List Pn) (ts : List T3) (ph cs xs ps : List Int)
  (hv : SlV [Ls.blX (flatP l), Ls.blX (flatT ts)] 0 v (flatP l) l.length) (hw : SlV [Ls.blX (flatP l), Ls.blX (flatT ts)] 1 w (flatT ts) ts.length) (hu : SlV [Ls.blX (flatP l), Ls.blX (flatT ts), Ls.blX (flatN ph)] 2 u (flatN ph) ph.length) (hx : SlV [Ls.blX (flatP l), Ls.blX (flatT ts), Ls.blX (flatN ph), Ls.blX (flatN cs)] 3 x (flatN cs) cs.length)
  (hs : SlV [none, none, none, none, Ls.blX (flatN xs)] 4 s (flatN xs) xs.length) (hp : SlV [none, none, none, none, none, Ls.blX (flatN ps)] 5 p (flatN ps) ps.length) (hl : (l.length : Int) ≤ 9223372036854775807) (ht : (ts.length : Int) ≤ 9223372036854775807) :
  PCalls Tryz.prog 8 [.agg #[v, w, u, x], .agg #[s, p]] [Ls.blX (flatP l), Ls.blX (flatT ts), Ls.blX (flatN ph), Ls.blX (flatN cs), Ls.blX (flatN xs), Ls.blX (flatN ps)] (.bool true) := by
 have hr := ro_bl6 (flatP l) (flatT ts) (flatN ph) (flatN cs) (flatN xs) (flatN ps)
 have hS : ∀ m : Mem, m.at 0 = Ls.blX (flatP l) → m.at 1 = Ls.blX (flatT ts) → m.at 2 = Ls.blX (flatN ph) → m.at 3 = Ls.blX (flatN cs) → PCalls Tryz.prog 40 [.agg #[v, w, u, x]] m (.bool (smT l ts ph cs)) := fun m e0 e1 e2 e3 => Small_g (hv.of e0) (hw.of e1) (hu.of e2) (hx.of e3) e0 e1 e2 e3 hl ht
 obtain ⟨xs1, c1, hs1⟩ := hs.any
 obtain ⟨xp1, c2, hp1⟩ := hp.any
 by_cases hf : smT l ts ph cs = true → 30 < xs.length ∨ 30 < ps.length
 ·rw [hs1, hp1]
  exact MeshProofs_f v w u x xs1 xp1 c1 c2 _ _ _ _ _ _ _ _ _ hr hS hf
 ·have hsm : smT l ts ph cs = true := by
   cases h : smT l ts ph cs with
   | true => rfl
   | false => exact absurd (fun h2 => nomatch h.symm.trans h2) hf
  have h30 : xs.length ≤ 30 ∧ ps.length ≤ 30 := by
   have : ¬ (30 < xs.length ∨ 30 < ps.length) := fun h => hf fun _ => h
   omega
  obtain ⟨h1, h2⟩ := h30
  rw [hsm] at hS
  unfold smT at hsm
  rw [Bool.and_eq_true, Bool.and_eq_true, decide_eq_true_iff, decide_eq_true_iff] at hsm
  obtain ⟨hli, hph, hcs⟩ := hsm
  obtain ⟨l1, l2⟩ := liB_le hli
  have hK := fun (m : Mem) (e0 : m.at 0 = Ls.blX (flatP l)) (e1 : m.at 1 = Ls.blX (flatT ts)) (e2 : m.at 2 = Ls.blX (flatN ph)) (e3 : m.at 3 = Ls.blX (flatN cs)) (hb : Row m 6 []) => CopyTask_g (hv.of e0) (hw.of e1) (hu.of e2) (hx.of e3) e0 e1 e2 e3 hb (by omega) (by omega) (by omega) (by omega)
  have hI := fun (m : Mem) (e : m.at 4 = Ls.blX (flatN xs)) => CopyInts_g (m := m) (hs.of e) (by omega)
  have hJ := fun (m : Mem) (e : m.at 5 = Ls.blX (flatN ps)) => CopyInts_g (m := m) (hp.of e) (by omega)
  have hrT := fun (m : Mem) (e0 : m.at 0 = Ls.blX (flatP l)) (e1 : m.at 1 = Ls.blX (flatT ts)) (e2 : m.at 2 = Ls.blX (flatN ph)) (e3 : m.at 3 = Ls.blX (flatN cs)) => rCheckTask_g (m := m) hv hw hu hx e0 e1 e2 e3 (by omega) ht (by omega) (by omega)
  have hC := cal_of l ts ph cs xs ps (by omega) (by omega) (by omega) (by omega) (by omega)
  by_cases hT0 : tkE l ts ph cs = 0
  ·have hT := tkE_0.1 hT0
   have q1 : ctV l ts ph cs xs = ctI ts ph cs xs := if_neg fun h => h hT0
   have q2 : ctE l ts ph cs xs = tuE ts ph xs := if_neg fun h => h hT0
   have q3 : ppV l ts ph cs ps = cpI ts ph cs ps := if_neg fun h => h hT0
   have q4 : ppE l ts ph cs ps = poE ts cs ps := if_neg fun h => h hT0
   rw [q1, q2, q3, q4, hT0] at hC
   rw [hT0] at hrT
   have h0 : 0 < ts.length := hT.net.g.1
   have h2l := two_of hT.net.all h0
   have hpos := edL_pos hT.net
   have hcl := hT.len
   obtain ⟨hpl, _⟩ := phE_0 hT.ph
   have f0 : Ls.blX (flatP l) = some ⟨flatP l, false, 0⟩ := if_neg (fun h => by have := (flatP_nil l).1 h; omega)
   have f1 : Ls.blX (flatT ts) = some ⟨flatT ts, false, 0⟩ := if_neg (fun h => by have := (flatT_nil ts).1 h; omega)
   have f2 : Ls.blX (flatN ph) = some ⟨flatN ph, false, 0⟩ := if_neg (fun h => by have := (flatN_nil ph).1 h; omega)
   have f3 : Ls.blX (flatN cs) = some ⟨flatN cs, false, 0⟩ := if_neg (fun h => by have := (flatN_nil cs).1 h; omega)
   have ks := hs.ok (k := 5) (by decide)
   have kp := hp.ok (k := 6) (by decide)
   have hro : ∀ ys : List Int, Mem.ro [some ⟨flatP l, false, 0⟩, some ⟨flatT ts, false, 0⟩, some ⟨flatN ph, false, 0⟩, some ⟨flatN cs, false, 0⟩, Ls.blX (flatN ys)] := fun ys b blk hb => by
    match b, hb with
    | 0, hb => cases hb; rfl
    | 1, hb => cases hb; rfl
    | 2, hb => cases hb; rfl
    | 3, hb => cases hb; rfl
    | 4, hb => exact Ls.blX_ro _ _ hb
    | b + 5, hb => simp [Mem.at] at hb
   have hrC : ∀ m : Mem, m.at 0 = Ls.blX (flatP l) → m.at 1 = Ls.blX (flatT ts) → m.at 2 = Ls.blX (flatN ph) → m.at 3 = Ls.blX (flatN cs) → m.at 4 = Ls.blX (flatN xs) → PCalls Tryz.prog 46 [.agg #[v, w, u, x], s] m (.tuple #[.int .i64 (ctI ts ph cs xs), .int .i64 (tuE ts ph xs)]) := fun m e0 e1 e2 e3 e4 => by
    rw [(hv.pos (by omega)).1, (hw.pos h0).1, (hu.pos (by omega)).1, (hx.pos (by omega)).1]
    refine PCalls.blx [flatP l, flatT ts, flatN ph, flatN cs, flatN xs] ?_ (fun k c hk => ?_) ?_ rfl
    ·show PCalls _ _ _ [Ls.blX (flatP l), Ls.blX (flatT ts), Ls.blX (flatN ph), Ls.blX (flatN cs), Ls.blX (flatN xs)] _
     rw [f0, f1, f2, f3]
     by_cases htu : tuR ts xs = 0
     ·obtain ⟨hxl, _⟩ := tuR_0 htu
      have f4 : Ls.blX (flatN xs) = some ⟨flatN xs, false, 0⟩ := if_neg (fun h => by have := (flatN_nil xs).1 h; omega)
      rw [(hs.pos (by omega)).1, f4]
      exact rCheckTurns_y l ts ph cs xs hT htu
     ·obtain ⟨g1, g2⟩ := ct_r (ph := ph) (cs := cs) htu
      rw [g1, g2]
      exact rCheckTurns_t l ts ph cs hT.net s _ htu _ (hro xs) fun m A B a1 a2 b1 b2 e4 a3 b3 a4 b4 => rTurnsErr_q (m := m) hT.net INF INF (hs.of e4) (by omega) (by decide) a1 a2 b1 b2 a3 b3 a4 b4
    ·match k, hk with
     | 0, hk => cases hk; exact ⟨flatP_scal l, e0⟩
     | 1, hk => cases hk; exact ⟨flatT_scal ts, e1⟩
     | 2, hk => cases hk; exact ⟨flatN_scal ph, e2⟩
     | 3, hk => cases hk; exact ⟨flatN_scal cs, e3⟩
     | 4, hk => cases hk; exact ⟨flatN_scal xs, e4⟩
     | k + 5, hk => simp at hk
    ·obtain ⟨xa, ca, rfl⟩ := hs.any
     show (true && (ok1 5 _ && true)) = true
     rw [ks]
     rfl
   have hrP : ∀ m : Mem, m.at 0 = Ls.blX (flatP l) → m.at 1 = Ls.blX (flatT ts) → m.at 2 = Ls.blX (flatN ph) → m.at 3 = Ls.blX (flatN cs) → m.at 4 = Ls.blX (flatN xs) → m.at 5 = Ls.blX (flatN ps) → PCalls Tryz.prog 47 [.agg #[v, w, u, x], p] m (.tuple #[.int .i64 (cpI ts ph cs ps), .int .i64 (poE ts cs ps)]) := fun m e0 e1 e2 e3 e4 e5 => by
    rw [(hv.pos (by omega)).1, (hw.pos h0).1, (hu.pos (by omega)).1, (hx.pos (by omega)).1]
    by_cases hpl2 : ps.length = ts.length
    ·have f5 : Ls.blX (flatN ps) = some ⟨flatN ps, false, 0⟩ := if_neg (fun h => by have := (flatN_nil ps).1 h; omega)
     rw [(hp.pos (by omega)).1]
     have := PCalls.viaS (m := m) [0, 1, 2, 3, 5] (rCheckPot_y l ts ph cs ps hT hpl2) (ro5p _ _ _ _ _ rfl rfl rfl rfl rfl) ⟨⟨_, e0.trans f0, rfl, (fun h => nomatch h), .inl ⟨rfl, flatP_scal _⟩⟩, ⟨_, e1.trans f1, rfl, (fun h => nomatch h), .inl ⟨rfl, flatT_scal _⟩⟩, ⟨_, e2.trans f2, rfl, (fun h => nomatch h), .inl ⟨rfl, flatN_scal _⟩⟩, ⟨_, e3.trans f3, rfl, (fun h => nomatch h), .inl ⟨rfl, flatN_scal _⟩⟩, ⟨_, e5.trans f5, rfl, (fun h => nomatch h), .inl ⟨rfl, flatN_scal _⟩⟩, trivial⟩ rfl rfl rfl rfl
     exact this
    ·have g1 := poE_10 (cs := cs) hpl2
     have g2 : cpI ts ph cs ps = 0 := if_pos (by rw [g1]; decide)
     rw [g1, g2]
     obtain ⟨xa, ca, rfl⟩ := hp.any
     have h80 := hT.net.le
     refine PCalls.blx [flatP l, flatT ts, flatN ph, flatN cs, flatN xs, flatN ps] ?_ (fun k c hk => ?_) ?_ rfl
     ·show PCalls _ _ _ [Ls.blX (flatP l), Ls.blX (flatT ts), Ls.blX (flatN ph), Ls.blX (flatN cs), Ls.blX (flatN xs), Ls.blX (flatN ps)] _
      exact rCheckPot_l6 _ _ _ ts.length xa INF ca ps (by omega) (by omega) hpl2 _ _ _ _ _ _ hr
     ·match k, hk with
      | 0, hk => cases hk; exact ⟨flatP_scal l, e0⟩
      | 1, hk => cases hk; exact ⟨flatT_scal ts, e1⟩
      | 2, hk => cases hk; exact ⟨flatN_scal ph, e2⟩
      | 3, hk => cases hk; exact ⟨flatN_scal cs, e3⟩
      | 4, hk => cases hk; exact ⟨flatN_scal xs, e4⟩
      | 5, hk => cases hk; exact ⟨flatN_scal ps, e5⟩
      | k + 6, hk => simp at hk
     ·show (true && (ok1 6 _ && true)) = true
      rw [kp]
      rfl
   exact MeshProofs_y l ts ph cs xs ps v w u x s p xs1 xp1 c1 c2 hs1 hp1 _ _ _ _ _ _ hr _ _ _ _ _ (fun h => absurd rfl h) (fun _ a b => ct_w a b) h1 h2 (blX_map _) (blX_map _) (blX_map _) (blX_map _) (blX_map _) (blX_map _) hS hK hI hJ hrT (fun _ => hrC) (fun _ => hrP) hC
  ·have q1 : ctV l ts ph cs xs = 0 := if_pos hT0
   have q2 : ctE l ts ph cs xs = tkE l ts ph cs := if_pos hT0
   have q3 : ppV l ts ph cs ps = 0 := if_pos hT0
   have q4 : ppE l ts ph cs ps = tkE l ts ph cs := if_pos hT0
   rw [q1, q2, q3, q4] at hC
   exact MeshProofs_y l ts ph cs xs ps v w u x s p xs1 xp1 c1 c2 hs1 hp1 _ _ _ _ _ _ hr _ _ _ _ _ (fun _ => ⟨rfl, rfl, rfl, rfl⟩) (fun h => absurd h hT0) h1 h2 (blX_map _) (blX_map _) (blX_map _) (blX_map _) (blX_map _) (blX_map _) hS hK hI hJ hrT (fun h => absurd h hT0) (fun h => absurd h hT0) hC
end Go.Proofs.YtmohcmghbfhdlaaGreat
end
section
namespace Go.Proofs.YtmohcmghbfhdlaaGreat.MeshProofs
open Go.ChangeShapes Go.WideShapes Go.ChangeAt Go Go.RowKit Go.Ab Go.Ls Go.Me Go.Proofs.YtmohcmghbfhdlaaGreat
set_option maxRecDepth 100000
theorem walk {W : World} (a : Option Addr) (l : List Pn) (cap : Nat) (b : Option Addr) (ts : List T3) (cat : Nat) (d : Option Addr) (ph : List Int) (cad : Nat) (e : Option Addr) (cs : List Int) (cae : Nat)
  (hcap : l.length ≤ cap) (hcm : cap ≤ maxLen) (hS : SlX W a (flatP l)) (hz : a = none → cap = 0) (hcat : ts.length ≤ cat) (hcmt : cat ≤ maxLen) (hT : SlX W b (flatT ts)) (hzt : b = none → cat = 0)
  (hcad : ph.length ≤ cad) (hcmd : cad ≤ maxLen) (hD : SlX W d (flatN ph)) (hzd : d = none → cad = 0) (hcae : cs.length ≤ cae) (hcme : cae ≤ maxLen) (hE : SlX W e (flatN cs)) (hze : e = none → cae = 0)
  (f : Option Addr) (xs : List Int) (caf : Nat) (g : Option Addr) (ps : List Int) (cag : Nat)
  (hcaf : xs.length ≤ caf) (hcmf : caf ≤ maxLen) (hF : SlX W f (flatN xs)) (hzf : f = none → caf = 0) (hcag : ps.length ≤ cag) (hcmg : cag ≤ maxLen) (hG : SlX W g (flatN ps)) (hzg : g = none → cag = 0) :
  Calls Tryz.prog 8 #[.agg #[.slice a l.length cap, .slice b ts.length cat, .slice d ph.length cad, .slice e cs.length cae], .agg #[.slice f xs.length caf, .slice g ps.length cag]] W fun e w' => e = .returned (.bool true) ∧ Below W.heap.size W w' := by
 simp only [maxLen] at hcm hcmt
 refine glueL (args := [.agg #[vaX 0 l.length a.isNone, vaX 1 ts.length b.isNone, vaX 2 ph.length d.isNone, vaX 3 cs.length e.isNone], .agg #[vaX 4 xs.length f.isNone, vaX 5 ps.length g.isNone]]) [(a, flatP l), (b, flatT ts), (d, flatN ph), (e, flatN cs), (f, flatN xs), (g, flatN ps)] (fun x hx => ?_) ?_ (MeshProofs_q _ _ _ _ _ _ l ts ph cs xs ps (.arg rfl (flatP_nil l)) (.arg rfl (flatT_nil ts)) (.arg rfl (flatN_nil ph)) (.arg rfl (flatN_nil cs)) (.arg rfl (flatN_nil xs)) (.arg rfl (flatN_nil ps)) (by omega) (by omega))
 ·simp only [List.mem_cons, List.not_mem_nil, or_false] at hx
  rcases hx with rfl | rfl | rfl | rfl | rfl | rfl
  ·exact ⟨flatP_scal l, hS⟩
  ·exact ⟨flatT_scal ts, hT⟩
  ·exact ⟨flatN_scal ph, hD⟩
  ·exact ⟨flatN_scal cs, hE⟩
  ·exact ⟨flatN_scal xs, hF⟩
  ·exact ⟨flatN_scal ps, hG⟩
 ·refine .tuple rfl fun i h h' => ?_
  match i, h with
  | 0, _ =>
   refine .agg rfl fun j k k' => ?_
   match j, k with
   | 0, _ => exact vaX_rel hS (flatP_nil l) hcap hz rfl
   | 1, _ => exact vaX_rel hT (flatT_nil ts) hcat hzt rfl
   | 2, _ => exact vaX_rel hD (flatN_nil ph) hcad hzd rfl
   | 3, _ => exact vaX_rel hE (flatN_nil cs) hcae hze rfl
   | j + 4, k => exact absurd k (by simp)
  | 1, _ =>
   refine .agg rfl fun j k k' => ?_
   match j, k with
   | 0, _ => exact vaX_rel hF (flatN_nil xs) hcaf hzf rfl
   | 1, _ => exact vaX_rel hG (flatN_nil ps) hcag hzg rfl
   | j + 2, k => exact absurd k (by simp)
  | i + 2, h => exact absurd h (by simp)
set_option maxRecDepth 100000 in
theorem lifted (os : Os) (started : os.Started) (H : Type) (enc : TypeId × Value → H) :
  ReturnsInHanded {} Tryz.checked os 8 .any (Rows.meshProofsSpec.pre6 enc Tryz.prog Tryz.f8 Rows.meshProofsRow.domain false) (Rows.meshProofsSpec.post enc Tryz.prog Tryz.f8 false true false false) := by
 refine returnsInHanded_of_change (C := Tryz.checked) own started (by kernel_rfl) Tryz.func8
  (ChangeSpec.witness6 (enc := enc) (C := Tryz.checked) false ⟨#[], #[.agg #[.slice none 0 0, .slice none 0 0, .slice none 0 0, .slice none 0 0], .agg #[.slice none 0 0, .slice none 0 0]], []⟩ 8 (by kernel_rfl) (by kernel_rfl) (by kernel_rfl) (by kernel_rfl)) ?_
 intro W base args ds gs before hval0 hW hcnd _
 have hval : ∀ (j : Nat) t v, Tryz.f8.params[j]? = some t → args[j]? = some v → Value.okWide Tryz.prog W .any base t v := hval0
 have hW' := hW
 obtain ⟨p, q, hA0, hV, rfl, hfz, hnd⟩ := hW
 have hA : DataW.TrodAll enc Tryz.prog W 0 (fun _ => true) true Tryz.f8.params.toList args.toList ds p := hA0
 rw [Tryz.params8] at hA hval
 obtain ⟨v0, vs0, d0, ds0, p0, q0, hargs, rfl, rfl, h0, r0⟩ := trodAll_cons hA
 obtain ⟨v1, vs1, d1, ds1, p1, q1, rfl, rfl, rfl, h1, r1⟩ := trodAll_cons r0
 obtain ⟨rfl, rfl, rfl⟩ := trodAll_nil r1
 obtain rfl : args = #[v0, v1] := by cases args; simp_all
 obtain ⟨rfl, rfl⟩ := trodVars_none hV
 clear hA0 hval0
 have hlt := hW'.lt
 have g0 := h0
 have g1 := h1
 obtain ⟨a0, l0, cap0, b0, t0, cat0, d0, ph0, cad0, e0, cs0, cae0, rfl, hcap0, hcm0, hS0, hz0, hcat0, hcmt0, hT0, hzt0, hcad0, hcmd0, hD0, hzd0, hcae0, hcme0, hE0, hze0⟩ := open_MK (hval 0 67 v0 rfl rfl) h0
 obtain ⟨a1, l1, cap1, b1, t1, cat1, rfl, hcap1, hcm1, hS1, hz1, hcat1, hcmt1, hT1, hzt1⟩ := open_PR (hval 1 69 v1 rfl rfl) h1
 simp only [List.append_nil] at hW' hlt ⊢
 refine (walk a0 l0 cap0 b0 t0 cat0 d0 ph0 cad0 e0 cs0 cae0 hcap0 hcm0 hS0 hz0 hcat0 hcmt0 hT0 hzt0 hcad0 hcmd0 hD0 hzd0 hcae0 hcme0 hE0 hze0 a1 l1 cap1 b1 t1 cat1 hcap1 hcm1 hS1 hz1 hcat1 hcmt1 hT1 hzt1).mono fun e W' ⟨he, hb⟩ => ?_
 subst he
 have stay : ∀ (t : TypeId) v d ps (sp : Nat → Bool), Tryz.prog.readableRec t = true → t < Tryz.prog.types.size → DataW.Trod enc Tryz.prog W 0 (fun _ => true) true t v d ps → (∀ x ∈ ps, x.block < W.heap.size) → (∀ x ∈ ps, sp x.block = true) → DataW.Trod enc Tryz.prog W' 0 sp true t v d ps :=
  fun t v d ps sp hr ht h hx hs => Go.WideElems.Trod_stays laid hr ht h (fun x hxp => hb.same (hx x hxp)) hs
 exact ⟨_, rfl, post_below (pa := p0 ++ (p1 ++ [])) (pv := []) hW' (fun _ _ _ => trodAll_mk1 (shut_bool Tryz.underlying4 true)) (fun sp hs => (trodAll_cons_mk (stay 67 _ _ _ sp (by kernel_rfl) (of_decide_eq_true (by kernel_rfl)) g0 (fun x hx => hlt x (by simp [hx])) (fun x hx => hs x (by simp [hx]))) (trodAll_cons_mk (stay 69 _ _ _ sp (by kernel_rfl) (of_decide_eq_true (by kernel_rfl)) g1 (fun x hx => hlt x (by simp [hx])) (fun x hx => hs x (by simp [hx]))) (trodAll_mk0)))) (fun _ _ => rfl) (by simp)
  hb (ok_one (by kernel_rfl) rfl (okWide_bool_mk Tryz.underlying4 true))⟩
theorem over : Rows.meshProofsRow.holds Tryz.pinned (OpenSpec.ofChange Rows.meshProofsSpec) :=
 OpenClaim.holds_of_wide 8 Tryz.f8 rfl rfl rfl rfl rfl rfl rfl ⟨rfl, rfl, rfl, rfl, rfl⟩ rfl rfl rfl rfl rfl (by kernel_rfl) Tryz.func8 (by kernel_rfl)
  (of_decide_eq_true (by kernel_rfl)) (by unfold Func.isWrapper; first | (rw [if_pos (by decide +kernel)]; kernel_rfl) | (rw [if_neg (by decide +kernel)]; exact ⟨rfl, rfl⟩))
  (fun os started H enc _ => lifted os started H enc)
theorem proved : Rows.MeshProofsSaid := over
#print axioms proved
end Go.Proofs.YtmohcmghbfhdlaaGreat.MeshProofs
end
