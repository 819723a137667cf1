/- MeshCloses: differences and closures are as specified, or the errors; all closures together are the sum of the differences along the border. -/
import Derived.Test.YtmohcmghbfhdlaaGreatQd
import Derived.Test.YtmohcmghbfhdlaaGreatRows
import Derived.Test.YtmohcmghbfhdlaaGreatQk
import Derived.Test.YtmohcmghbfhdlaaGreatQy
import Derived.Test.YtmohcmghbfhdlaaGreatRc
import Derived.Test.YtmohcmghbfhdlaaGreatRd
import Derived.Test.YtmohcmghbfhdlaaGreatQx
set_option linter.unusedSimpArgs false
set_option linter.unusedVariables false
section
namespace Go.Proofs.YtmohcmghbfhdlaaGreat
open Go Go.RowKit Go.Ab Go.Me
set_option maxRecDepth 100000
set_option maxHeartbeats 4000000
attribute [local irreducible] OQ OW AL AW AF SW
theorem MeshCloses_f (v w u : Value) (l : List Pn) (ts : List T3) (o1 o2 o3 : Option Blk) (hr : Mem.ro [o1, o2, o3]) (hv : SlV [o1, o2] 0 v (flatP l) l.length) (hw : SlV [o1, o2] 1 w (flatT ts) ts.length) (hl : (l.length : Int) ≤ 9223372036854775807) (ht : (ts.length : Int) ≤ 9223372036854775807) (he : liB l ts = false) :
    PCalls Tryz.prog 5 [.agg #[v, w], u] [o1, o2, o3] (.bool true) := by
  have hLi := fun (m : Mem) (e0 : m.at 0 = Mem.at [o1, o2] 0) (e1 : m.at 1 = Mem.at [o1, o2] 1) => Light_g (m := m) (hv.of e0) (hw.of e1) hl ht
  rw [he] at hLi
  refine PCalls.en 144 Tryz.func5 rfl (hr) rfl (fun E => ?_)
  repeat' (first | with_reducible (first | refine Then.n ?_ | refine Then.r ?_) | ((with_reducible refine AL.on ?_); first | (refine AL.gd rfl ?_; (refine AL.gs0 rfl rfl (fun hc => ?_) (fun hc => ?_) <;> (try replace hc := nc hc) <;> first | (exfalso; contradiction) | (refine AL.nm ?_))) | ((first | ((with_reducible refine AL.k_move ?_); (refine AL.q rfl (OQ.move wl) ?_)) | ((with_reducible refine AL.k_assign ?_); (refine AL.q rfl (OQ.assign wl) ?_)) | ((with_reducible refine AL.k_call ?_); refine AL.q rfl (OQ.lenS (xt := 26) (r := (none, 1, false)) rfl kr) ?_) | ((with_reducible refine AL.k_binOp ?_); refine AL.q rfl (OQ.gtr rfl rfl) ?_) | ((with_reducible refine AL.k_load ?_); refine AL.q rfl (OQ.loadN (ty := 25) (n := 2) rfl kr kr rfl) ?_) | ((with_reducible refine AL.k_pick ?_); first | (refine AL.q rfl (OQ.pickT rfl (by with_reducible rfl) wl) ?_) | (refine AL.q rfl (OQ.pickF rfl (by with_reducible rfl) wl) ?_)) | ((with_reducible refine AL.k_unOp ?_); refine AL.q rfl (OQ.not rfl) ?_)); (refine AL.nm ?_)) | ((first | refine AL.pcall (g := 12) rfl kr rfl ((by exact awake_q _)) ?_ | refine AL.pcall (g := 13) rfl kr rfl ((by exact hLi _ rfl rfl)) ?_); (refine AL.nm ?_)) | (((refine AL.w rfl (OW.box wl (by intro r h; cases h)) ?_)); (refine AL.nm ?_); (refine AL.nM ?_)) | refine AL.nil ?_) | ((with_reducible refine AW.on ?_); first | refine AW.seq ?_ | refine AW.skip ?_ | refine AW.ret ?_ | refine AW.region ?_ | (refine AW.conds rfl (fun hc => ?_) (fun hc => ?_) <;> (try replace hc := nc hc) <;> first | (exfalso; first | contradiction | (omega); done) | skip)) | ((with_reducible refine FinP.on ?_); (refine FinP.ret (.tmp wl .nil) ?_ rfl); (try simp only [pack, List.drop, List.take]); all_goals (rfl)))
theorem MeshCloses_g (v w : Value) (xa : Option Addr) (c : Nat) (l : List Pn) (ts : List T3) (ph : List Int) (o1 o2 o3 : Option Blk) (hr : Mem.ro [o1, o2, o3]) (hv : SlV [o1, o2] 0 v (flatP l) l.length) (hw : SlV [o1, o2] 1 w (flatT ts) ts.length) (hl : (l.length : Int) ≤ 9223372036854775807) (ht : (ts.length : Int) ≤ 9223372036854775807) (he : liB l ts = true) (hp : 45 < ph.length) :
    PCalls Tryz.prog 5 [.agg #[v, w], .slice xa ph.length c] [o1, o2, o3] (.bool true) := by
  have hLi := fun (m : Mem) (e0 : m.at 0 = Mem.at [o1, o2] 0) (e1 : m.at 1 = Mem.at [o1, o2] 1) => Light_g (m := m) (hv.of e0) (hw.of e1) hl ht
  rw [he] at hLi
  refine PCalls.en 144 Tryz.func5 rfl (hr) rfl (fun E => ?_)
  repeat' (first | with_reducible (first | refine Then.n ?_ | refine Then.r ?_) | ((with_reducible refine AL.on ?_); first | (refine AL.gd rfl ?_; (refine AL.gs0 rfl rfl (fun hc => ?_) (fun hc => ?_) <;> (try replace hc := nc hc) <;> first | (exfalso; contradiction) | (refine AL.nm ?_))) | ((first | ((with_reducible refine AL.k_move ?_); (refine AL.q rfl (OQ.move wl) ?_)) | ((with_reducible refine AL.k_assign ?_); (refine AL.q rfl (OQ.assign wl) ?_)) | ((with_reducible refine AL.k_call ?_); refine AL.q rfl (OQ.lenS (xt := 26) (r := (none, 1, false)) rfl kr) ?_) | ((with_reducible refine AL.k_binOp ?_); refine AL.q rfl (OQ.gtr rfl rfl) ?_) | ((with_reducible refine AL.k_load ?_); refine AL.q rfl (OQ.loadN (ty := 25) (n := 2) rfl kr kr rfl) ?_) | ((with_reducible refine AL.k_pick ?_); first | (refine AL.q rfl (OQ.pickT rfl (by with_reducible rfl) wl) ?_) | (refine AL.q rfl (OQ.pickF rfl (by with_reducible rfl) wl) ?_)) | ((with_reducible refine AL.k_unOp ?_); refine AL.q rfl (OQ.not rfl) ?_)); (refine AL.nm ?_)) | ((first | refine AL.pcall (g := 12) rfl kr rfl ((by exact awake_q _)) ?_ | refine AL.pcall (g := 13) rfl kr rfl ((by exact hLi _ rfl rfl)) ?_); (refine AL.nm ?_)) | (((refine AL.w rfl (OW.box wl (by intro r h; cases h)) ?_)); (refine AL.nm ?_); (refine AL.nM ?_)) | refine AL.nil ?_) | ((with_reducible refine AW.on ?_); first | refine AW.seq ?_ | refine AW.skip ?_ | refine AW.ret ?_ | refine AW.region ?_ | (refine AW.conds rfl (fun hc => ?_) (fun hc => ?_) <;> (try replace hc := nc hc) <;> first | (exfalso; first | contradiction | (omega); done) | skip)) | ((with_reducible refine FinP.on ?_); (refine FinP.ret (.tmp wl .nil) ?_ rfl); (try simp only [pack, List.drop, List.take]); all_goals (rfl)))
theorem MeshCloses_e (v w : Value) (xa : Option Addr) (c0 : Nat) (l : List Pn) (ts : List T3) (ph : List Int) (hv : SlV [Ls.blX (flatP l), Ls.blX (flatT ts)] 0 v (flatP l) l.length) (hw : SlV [Ls.blX (flatP l), Ls.blX (flatT ts)] 1 w (flatT ts) ts.length) (hu : SlV [Ls.blX (flatP l), Ls.blX (flatT ts), Ls.blX (flatN ph)] 2 (.slice xa ph.length c0) (flatN ph) ph.length) (hl : (l.length : Int) ≤ 9223372036854775807) (ht : (ts.length : Int) ≤ 9223372036854775807) (hp : ph.length ≤ 45) (hli : liB l ts = true) (he : neE l ts ph ≠ 0) :
    PCalls Tryz.prog 5 [.agg #[v, w], .slice xa ph.length c0] [Ls.blX (flatP l), Ls.blX (flatT ts), Ls.blX (flatN ph)] (.bool true) := by
  obtain ⟨l1, l2⟩ := liB_le hli
  have hLi := fun (m : Mem) (e0 : m.at 0 = Ls.blX (flatP l)) (e1 : m.at 1 = Ls.blX (flatT ts)) => Light_g (m := m) (hv.of (m' := m) e0) (hw.of (m' := m) e1) hl ht
  rw [hli] at hLi
  have hC := fun (m : Mem) (e0 : m.at 0 = Ls.blX (flatP l)) (e1 : m.at 1 = Ls.blX (flatT ts)) => Copy_g (m := m) (by decide) (hv.of (m' := m) e0) (hw.of (m' := m) e1) (by omega) (by omega)
  have hI := fun (m : Mem) (e2 : m.at 2 = Ls.blX (flatN ph)) => CopyInts_g (m := m) (hu.of (m' := m) e2) (by omega)
  have hD := fun (m : Mem) (bP bT bF : Nat) (F : Blk) (c c2 c3 : Nat) (hA : ArgN m bP bT l ts) (f1 : m.at bF = some F) (f2 : F.cells = flatN ph) (f3 : F.obj = Ob.plain) => Differences_e (c := c) (c2 := c2) (c3 := c3) l ts ph hA rfl rfl f1 f2 rfl he (by omega) (by omega) f3
  have hK := fun (m : Mem) (bP bT bF : Nat) (F : Blk) (c c2 c3 : Nat) (hA : ArgN m bP bT l ts) (f1 : m.at bF = some F) (f2 : F.cells = flatN ph) (f3 : F.obj = Ob.plain) => Closures_e (c := c) (c2 := c2) (c3 := c3) l ts ph hA rfl rfl f1 f2 rfl he (by omega) (by omega) f3
  have hrN := fun (m : Mem) (e0 : m.at 0 = Ls.blX (flatP l)) (e1 : m.at 1 = Ls.blX (flatT ts)) (e2 : m.at 2 = Ls.blX (flatN ph)) => NetErr_g (m := m) e0 e1 e2 hv hw hu (by omega) ht (by omega)
  have hr := ro_bl3 (flatP l) (flatT ts) (flatN ph)
  generalize neE l ts ph = E0 at *
  generalize Ls.blX (flatP l) = o1 at *
  generalize Ls.blX (flatT ts) = o2 at *
  generalize Ls.blX (flatN ph) = o3 at *
  refine PCalls.en 144 Tryz.func5 rfl (hr) rfl (fun E => ?_)
  repeat' (first | with_reducible (first | refine Then.n ?_ | refine Then.r ?_) | ((with_reducible refine AL.on ?_); first | (refine AL.gd rfl ?_; first | (refine AL.gs1 rfl rfl (fun hc => ?_) (fun hc => ?_) <;> (try replace hc := nc hc) <;> first | (exfalso; contradiction) | (refine AL.nm ?_)) | (refine AL.gs0 rfl rfl (fun hc => ?_) (fun hc => ?_) <;> (try replace hc := nc hc) <;> first | (exfalso; contradiction) | (refine AL.nm ?_))) | ((first | ((with_reducible refine AL.k_move ?_); (refine AL.q rfl (OQ.move wl) ?_)) | ((with_reducible refine AL.k_assign ?_); (refine AL.q rfl (OQ.assign wl) ?_)) | ((with_reducible refine AL.k_call ?_); refine AL.q rfl (OQ.lenS (xt := 26) (r := (none, 1, false)) rfl kr) ?_) | ((with_reducible refine AL.k_binOp ?_); first | refine AL.q rfl (OQ.gtr rfl rfl) ?_ | refine AL.q rfl (OQ.neq rfl rfl) ?_ | refine AL.q rfl (OQ.eql rfl rfl) ?_ | refine AL.q rfl (OQ.addi rfl rfl (by omega)) ?_) | ((with_reducible refine AL.k_load ?_); refine AL.q rfl (OQ.loadN (ty := 25) (n := 2) rfl kr kr rfl) ?_) | ((with_reducible refine AL.k_pick ?_); first | (refine AL.q rfl (OQ.pickT rfl (by with_reducible rfl) wl) ?_) | (refine AL.q rfl (OQ.pickF rfl (by with_reducible rfl) wl) ?_)) | ((with_reducible refine AL.k_extract ?_); refine AL.q rfl (OQ.extract rfl rfl) ?_) | ((with_reducible refine AL.k_unOp ?_); refine AL.q rfl (OQ.not rfl) ?_)); (refine AL.nm ?_)) | ((first | refine AL.pcall (g := 12) rfl kr rfl ((by exact awake_q _)) ?_ | refine AL.pcall (g := 13) rfl kr rfl ((by exact hLi _ rfl rfl)) ?_ | refine AL.pcall (g := 24) rfl kr rfl ((by exact hD _ _ _ _ _ _ _ _ ⟨⟨_, rfl, rfl, .inr rfl, rfl⟩, ⟨_, rfl, rfl, rfl⟩, by decide⟩ rfl rfl rfl)) ?_ | refine AL.pcall (g := 33) rfl kr rfl ((by exact hK _ _ _ _ _ _ _ _ ⟨⟨_, rfl, rfl, .inr rfl, rfl⟩, ⟨_, rfl, rfl, rfl⟩, by decide⟩ rfl rfl rfl)) ?_ | refine AL.pcall (g := 17) rfl kr rfl ((by exact hrN _ rfl rfl rfl)) ?_); (refine AL.nm ?_)) | ((first | ((with_reducible refine AL.k_call ?_); first | refine AL.acall (g := 15) rfl kr rfl ((by exact hC _ rfl rfl)) ?_ | refine AL.acall (g := 16) rfl kr rfl ((by exact hI _ rfl)) ?_) | ((with_reducible refine AL.k_box ?_); (refine AL.w rfl (OW.box wl (by intro r h; cases h)) ?_))); (refine AL.nm ?_); (refine AL.nM ?_)) | refine AL.nil ?_) | ((with_reducible refine AW.on ?_); first | refine AW.seq ?_ | refine AW.skip ?_ | refine AW.ret ?_ | refine AW.region ?_ | (refine AW.conds rfl (fun hc => ?_) (fun hc => ?_) <;> (try replace hc := nc hc) <;> first | (exfalso; first | contradiction | (omega); done) | skip)) | ((with_reducible refine FinP.on ?_); (refine FinP.ret (.tmp wl .nil) ?_ rfl); (try simp only [pack, List.drop, List.take]); all_goals (rfl)))
theorem MeshCloses_y (l : List Pn) (ts : List T3) (ph : List Int) (hli : liB l ts = true) (hR : NetR l ts) (hph : phE l ph = 0) (hp : ph.length ≤ 45) :
    PCalls Tryz.prog 5 [.agg #[.slice (some ⟨0, 0, none⟩) l.length INF, .slice (some ⟨1, 0, none⟩) ts.length INF], .slice (some ⟨2, 0, none⟩) ph.length INF] [some ⟨flatP l, false, 0⟩, some ⟨flatT ts, false, 0⟩, some ⟨flatN ph, false, 0⟩] (.bool true) := by
  obtain ⟨l1, l2⟩ := liB_le hli
  have h0 : 0 < ts.length := hR.g.1
  have h2 := two_of hR.all h0
  have hle := edL_le ts
  have h80 := hR.le
  have h40 := (cp_ok hR.cp).1
  obtain ⟨hpl, _⟩ := phE_0 hph
  have e1 : Ls.blX (flatP l) = some ⟨flatP l, false, 0⟩ := if_neg (fun h => by have := (flatP_nil l).1 h; omega)
  have e2 : Ls.blX (flatT ts) = some ⟨flatT ts, false, 0⟩ := if_neg (fun h => by have := (flatT_nil ts).1 h; omega)
  have e3 : Ls.blX (flatN ph) = some ⟨flatN ph, false, 0⟩ := if_neg (fun h => by have := (flatN_nil ph).1 h; omega)
  have hne : neE l ts ph = 0 := by
    unfold neE
    rw [netE_0.2 hR, hph]
    rfl
  have hrN : ∀ (m : Mem) (e0 : m.at 0 = some ⟨flatP l, false, 0⟩) (e1 : m.at 1 = some ⟨flatT ts, false, 0⟩) (e2 : m.at 2 = some ⟨flatN ph, false, 0⟩), PCalls Tryz.prog 17 [.agg #[.slice (some ⟨0, 0, none⟩) l.length INF, .slice (some ⟨1, 0, none⟩) ts.length INF], .slice (some ⟨2, 0, none⟩) ph.length INF] m (.int .i64 0) := fun m m0 m1 m2 => by
    have h := NetErr_g (m := m) (l := l) (ts := ts) (ph := ph) (v := .slice (some ⟨0, 0, none⟩) l.length INF) (w := .slice (some ⟨1, 0, none⟩) ts.length INF) (u := .slice (some ⟨2, 0, none⟩) ph.length INF) (by rw [e1]; exact m0) (by rw [e2]; exact m1) (by rw [e3]; exact m2) (.blk _ (by omega) rfl e1 rfl rfl) (.blk _ h0 rfl e2 rfl rfl) (.blk _ (by omega) rfl e3 rfl rfl) (by omega) (by omega) (by omega)
    rw [hne] at h
    exact h
  have hLi := fun (m : Mem) (A B : Blk) (a1 : m.at 0 = some A) (a2 : A.cells = flatP l) (b1 : m.at 1 = some B) (b2 : B.cells = flatT ts) (a3 : A.obj = Ob.plain) (b3 : B.obj = Ob.plain) => Light_g (m := m) (i := 0) (j := 1) (.blk A (by omega) rfl a1 a2 a3) (.blk B h0 rfl b1 b2 b3) (by omega) (by omega)
  rw [hli] at hLi
  have hC := fun (m : Mem) (A B : Blk) (a1 : m.at 0 = some A) (a2 : A.cells = flatP l) (b1 : m.at 1 = some B) (b2 : B.cells = flatT ts) (a3 : A.obj = Ob.plain) (b3 : B.obj = Ob.plain) => Copy_y (m := m) (i := 0) (j := 1) (by decide) (by omega) h0 (by omega) (by omega) a1 a2 b1 b2 a3 b3
  have hI : ∀ (m : Mem) (A : Blk) (a1 : m.at 2 = some A) (a2 : A.cells = flatN ph) (a3 : A.obj = Ob.plain), ACalls Tryz.prog 16 [.slice (some ⟨2, 0, none⟩) ph.length INF] m (.slice (some ⟨m.length, 0, none⟩) ph.length INF) (m ++ [some ⟨flatN ph, true, 1⟩]) := fun m A a1 a2 a3 => by
    have h := CopyInts_g (m := m) (i := 2) (.blk A (by omega) rfl a1 a2 a3) (by omega)
    rw [show cpC ph.length = INF from if_neg (by omega)] at h
    exact h
  have hD := fun (m : Mem) (bP bT bF : Nat) (F : Blk) (hA : ArgN m bP bT l ts) (f1 : m.at bF = some F) (f2 : F.cells = flatN ph) (f3 : F.obj = Ob.plain) (hd : [bP, bT, bF].Nodup) => Differences_y (c := INF) (c2 := INF) (c3 := INF) l ts ph hA rfl rfl f1 f2 rfl hR hph (by omega) hd f3
  have hK := fun (m : Mem) (bP bT bF : Nat) (F : Blk) (hA : ArgN m bP bT l ts) (f1 : m.at bF = some F) (f2 : F.cells = flatN ph) (f3 : F.obj = Ob.plain) (hd : [bP, bT, bF].Nodup) => Closures_y (c := INF) (c2 := INF) (c3 := INF) l ts ph hA rfl rfl f1 f2 rfl hR hph (by omega) hd f3
  have hS := fun (m : Mem) (bP bT : Nat) (hA : ArgN m bP bT l ts) => Sides_q (c := INF) (c2 := INF) l ts hA rfl rfl hR
  have hrD := fun (m : Mem) (A B X : Blk) (a1 : m.at 0 = some A) (a2 : A.cells = flatP l) (b1 : m.at 1 = some B) (b2 : B.cells = flatT ts) (x1 : m.at 2 = some X) (x2 : X.cells = flatN ph) (a3 : A.obj = Ob.plain) (b3 : B.obj = Ob.plain) (x3 : X.obj = Ob.plain) (a4 : A.esz = 0) (b4 : B.esz = 0) => rDifferences_q l ts hR ph hph INF INF INF (by decide) a1 a2 b1 b2 x1 x2 rfl a3 b3 x3 a4 b4
  have hrK := fun (m : Mem) (A B X : Blk) (a1 : m.at 0 = some A) (a2 : A.cells = flatP l) (b1 : m.at 1 = some B) (b2 : B.cells = flatT ts) (x1 : m.at 2 = some X) (x2 : X.cells = flatN ph) (a3 : A.obj = Ob.plain) (b3 : B.obj = Ob.plain) (x3 : X.obj = Ob.plain) (a4 : A.esz = 0) (b4 : B.esz = 0) => rClosures_q l ts hR ph hph INF INF INF (by decide) a1 a2 b1 b2 x1 x2 rfl a3 b3 x3 a4 b4
  have hsl := sdL_len ts
  have hdl := dfL_len ts ph
  have hcl := clL_len ts ph
  have hQ1 := fun (m : Mem) (b b' : Nat) (X Y : Blk) (x1 : m.at b = some X) (x2 : X.cells = flatN (dfL ts ph)) (y1 : m.at b' = some Y) (y2 : Y.cells = flatN (dfL ts ph)) (x3 : X.obj = Ob.plain) (y3 : Y.obj = Ob.plain) => Ints_q (n := (edL ts).length) (n' := (edL ts).length) (c := INF) (d := INF) (dfL ts ph) (dfL ts ph) (by omega) x1 x2 hdl y1 y2 hdl x3 y3
  have hQ2 := fun (m : Mem) (b b' : Nat) (X Y : Blk) (x1 : m.at b = some X) (x2 : X.cells = flatN (clL ts ph)) (y1 : m.at b' = some Y) (y2 : Y.cells = flatN (clL ts ph)) (x3 : X.obj = Ob.plain) (y3 : Y.obj = Ob.plain) => Ints_q (n := ts.length) (n' := ts.length) (c := ts.length) (d := INF) (clL ts ph) (clL ts ph) (by omega) x1 x2 hcl y1 y2 hcl x3 y3
  rw [decide_eq_true rfl] at hQ1 hQ2
  have hps : ∀ k, k < (edL ts).length → (flatP (sdL ts))[k * 2]? = some (.int .i64 (pt (sdL ts) k).x) ∧ (flatP (sdL ts))[k * 2 + 1]? = some (.int .i64 (pt (sdL ts) k).y) := fun k hk => flatP_get (sdL ts) k (by omega)
  have hg := fun (k : Nat) (hk : k < (edL ts).length) => flatN_get (dfL ts ph) k (by omega)
  have hgc := fun (k : Nat) (hk : k < ts.length) => flatN_get (clL ts ph) k (by omega)
  have hxb := fun (k : Nat) (hk : k < (edL ts).length) => dfL_bd ts ph k (by omega)
  have hcb := fun (k : Nat) (hk : k < ts.length) => cl_bd hR ph hk
  have hbb := brK_bd ts ph
  have hsb := scK_bd hR ph
  have hall := cl_all hR ph
  have z0 : brK ts (dfL ts ph) 0 = 0 := rfl
  have zs : scK (clL ts ph) 0 = 0 := rfl
  have ss : ∀ k, scK (clL ts ph) (k + 1) = scK (clL ts ph) k + nt (clL ts ph) k := fun k => rfl
  have s1 : ∀ k, (pt (sdL ts) k).y = -1 → (pt (sdL ts) k).x = -1 → brK ts (dfL ts ph) (k + 1) = brK ts (dfL ts ph) k + nt (dfL ts ph) k - nt (dfL ts ph) k := fun k h1 h2 => by
    show _ + _ - _ = _
    rw [if_pos h1, if_pos h2]
  have s2 : ∀ k, (pt (sdL ts) k).y = -1 → ¬ (pt (sdL ts) k).x = -1 → brK ts (dfL ts ph) (k + 1) = brK ts (dfL ts ph) k + nt (dfL ts ph) k := fun k h1 h2 => by
    show _ + _ - _ = _
    rw [if_pos h1, if_neg h2, Int.sub_zero]
  have s3 : ∀ k, ¬ (pt (sdL ts) k).y = -1 → (pt (sdL ts) k).x = -1 → brK ts (dfL ts ph) (k + 1) = brK ts (dfL ts ph) k - nt (dfL ts ph) k := fun k h1 h2 => by
    show _ + _ - _ = _
    rw [if_neg h1, if_pos h2, Int.add_zero]
  have s4 : ∀ k, ¬ (pt (sdL ts) k).y = -1 → ¬ (pt (sdL ts) k).x = -1 → brK ts (dfL ts ph) (k + 1) = brK ts (dfL ts ph) k := fun k h1 h2 => by
    show _ + _ - _ = _
    rw [if_neg h1, if_neg h2, Int.add_zero, Int.sub_zero]
  rw [hsl] at hS
  generalize brK ts (dfL ts ph) = BK at *
  generalize scK (clL ts ph) = SK at *
  refine PCalls.en 144 Tryz.func5 rfl (ro3p _ _ _ rfl rfl rfl) rfl (fun E => ?_)
  repeat' (first | with_reducible (first | refine Then.n ?_ | refine Then.x ?_ | refine InB.n ?_ | refine InB.hit ?_) | ((with_reducible refine AL.on ?_); first | (refine AL.gd rfl ?_; (refine AL.gs0 rfl rfl (fun hc => ?_) (fun hc => ?_) <;> (try replace hc := nc hc) <;> first | (exfalso; contradiction) | (refine AL.nm ?_))) | ((first | ((with_reducible refine AL.k_move ?_); (refine AL.q rfl (OQ.move wl) ?_)) | ((with_reducible refine AL.k_assign ?_); (refine AL.q rfl (OQ.assign wl) ?_)) | ((with_reducible refine AL.k_call ?_); first | refine AL.q rfl (OQ.lenS (xt := 26) (r := (none, 1, false)) rfl kr) ?_ | refine AL.q rfl (OQ.lenS (xt := 45) (r := (none, 2, true)) rfl kr) ?_) | ((with_reducible refine AL.k_binOp ?_); first | refine AL.q rfl (OQ.gtr rfl rfl) ?_ | refine AL.q rfl (OQ.neq rfl rfl) ?_ | refine AL.q rfl (OQ.eql rfl rfl) ?_ | refine AL.q rfl (OQ.addi rfl rfl (by omega)) ?_ | refine AL.q rfl (OQ.lss rfl rfl) ?_ | refine AL.q rfl (OQ.subi rfl rfl (by omega)) ?_ | refine AL.q rfl (OQ.muli rfl rfl (by omega)) ?_) | ((with_reducible refine AL.k_load ?_); first | refine AL.q rfl (OQ.loadN (ty := 25) (n := 2) rfl kr kr (by rfl)) ?_ | (refine AL.q rfl (OQ.load1 (ty := 3) rfl kr (by (first | exact (hps k (by omega)).1 | exact (hps k (by omega)).2 | exact hg k (by omega) | exact hgc q (by omega)))) ?_)) | ((with_reducible refine AL.k_pick ?_); (refine AL.q rfl (OQ.pickF rfl (by with_reducible rfl) wl) ?_)) | ((with_reducible refine AL.k_extract ?_); refine AL.q rfl (OQ.extract rfl rfl) ?_) | ((with_reducible refine AL.k_unOp ?_); refine AL.q rfl (OQ.not rfl) ?_)); (refine AL.nm ?_)) | ((first | ((with_reducible refine AL.k_call ?_); first | refine AL.pcall (g := 12) rfl kr rfl ((by exact awake_q _)) ?_ | refine AL.pcall (g := 13) rfl kr rfl ((by exact hLi _ _ _ rfl rfl rfl rfl rfl rfl)) ?_ | refine AL.pcall (g := 17) rfl kr rfl ((by exact hrN _ rfl rfl rfl)) ?_ | refine AL.pcall (g := 20) rfl kr rfl ((by first | exact hQ1 _ _ _ _ _ rfl rfl rfl rfl rfl rfl | exact hQ2 _ _ _ _ _ rfl rfl rfl rfl rfl rfl)) ?_) | ((with_reducible refine AL.k_indexAddr ?_); first | refine AL.q rfl (OQ.idxAddr (ty := 45) (z := 2) (g := true) rfl rfl kr (by omega) (by omega)) ?_ | refine AL.q rfl (OQ.idxPtr (ty := 52) (n := 1) (l := 2) (g := false) rfl rfl kr (by omega) (by omega)) ?_ | refine AL.q rfl (OQ.idxAddr (ty := 26) (z := 1) (g := false) rfl rfl kr (by omega) (by omega)) ?_)); (refine AL.nm ?_)) | ((first | ((with_reducible refine AL.k_call ?_); first | refine AL.acall (g := 15) rfl kr rfl ((by exact hC _ _ _ rfl rfl rfl rfl rfl rfl)) ?_ | refine AL.acall (g := 16) rfl kr rfl ((by exact hI _ _ rfl rfl rfl)) ?_ | refine AL.acall (g := 24) rfl kr rfl ((by exact hD _ _ _ _ _ ⟨⟨_, rfl, rfl, .inr rfl, rfl⟩, ⟨_, rfl, rfl, rfl⟩, by decide⟩ rfl rfl rfl (by decide))) ?_ | refine AL.acall (g := 33) rfl kr rfl ((by exact hK _ _ _ _ _ ⟨⟨_, rfl, rfl, .inr rfl, rfl⟩, ⟨_, rfl, rfl, rfl⟩, by decide⟩ rfl rfl rfl (by decide))) ?_ | refine AL.acall (g := 25) rfl kr rfl ((by exact hrD _ _ _ _ rfl rfl rfl rfl rfl rfl rfl rfl rfl rfl rfl)) ?_ | refine AL.acall (g := 34) rfl kr rfl ((by exact hrK _ _ _ _ rfl rfl rfl rfl rfl rfl rfl rfl rfl rfl rfl)) ?_ | refine AL.acall (g := 28) rfl kr rfl ((by exact hS _ _ _ ⟨⟨_, rfl, rfl, .inr rfl, rfl⟩, ⟨_, rfl, rfl, rfl⟩, by decide⟩)) ?_) | ((with_reducible refine AL.k_box ?_); (refine AL.w rfl (OW.box wl (by intro r h; cases h)) ?_))); (refine AL.nm ?_); (refine AL.nM ?_)) | refine AL.nil ?_) | ((with_reducible refine AW.on ?_); first | refine AW.seq ?_ | refine AW.skip ?_ | refine AW.exit ?_ | refine AW.ret ?_ | ((refine AW.block (id := 0) ?_); (refine AW.fk [5, 7, 10, 12, 13, 14] ?_); (refine AW.loop (fun n' t' m => ∃ k : Nat, n' = (edL ts).length - k ∧ k ≤ (edL ts).length ∧ t' = (mtz 146 0 [(5, .slice (some ⟨7, 0, none⟩) ((edL ts).length) INF), (7, .slice (some ⟨11, 0, none⟩) ts.length ts.length), (10, .slice (some ⟨16, 0, none⟩) ((edL ts).length) INF), (12, .int .i64 (BK k)), (13, .int .i64 (0)), (14, .int .i64 (k))]) ∧ m = [some ⟨flatP l, false, 0⟩, some ⟨flatT ts, false, 0⟩, some ⟨flatN ph, false, 0⟩, some ⟨[.slice (some ⟨0, 0, none⟩) l.length INF, .slice (some ⟨1, 0, none⟩) ts.length INF], true, 0⟩, some ⟨flatP l, true, 2⟩, some ⟨flatT ts, true, 3⟩, some ⟨flatN ph, true, 1⟩, some ⟨flatN (dfL ts ph), true, 1⟩, some ⟨flatP l, true, 2⟩, some ⟨flatT ts, true, 3⟩, some ⟨flatN ph, true, 1⟩, some ⟨flatN (clL ts ph), true, 1⟩, some ⟨flatN (dfL ts ph), true, 1⟩, some ⟨flatN (clL ts ph), true, 1⟩, some ⟨flatP l, true, 2⟩, some ⟨flatT ts, true, 3⟩, some ⟨flatP (sdL ts), true, 2⟩]) ((edL ts).length) (by exact ⟨0, rfl, Nat.zero_le _, by rw [z0]; rfl, rfl⟩) ?_); (rintro n' t' m ⟨k, rfl, hk, rfl, rfl⟩); (refine AW.nT ?_)) | ((refine AW.block (id := 2) ?_); (refine AW.fk [7, 12, 13, 15] ?_); (refine AW.loop (fun n' t' m => ∃ q : Nat, n' = ts.length - q ∧ q ≤ ts.length ∧ t' = (mtz 146 0 [(7, .slice (some ⟨11, 0, none⟩) ts.length ts.length), (12, .int .i64 (BK (edL ts).length)), (13, .int .i64 (SK q)), (15, .int .i64 (q))]) ∧ m = [some ⟨flatP l, false, 0⟩, some ⟨flatT ts, false, 0⟩, some ⟨flatN ph, false, 0⟩, some ⟨[.slice (some ⟨0, 0, none⟩) l.length INF, .slice (some ⟨1, 0, none⟩) ts.length INF], true, 0⟩, some ⟨flatP l, true, 2⟩, some ⟨flatT ts, true, 3⟩, some ⟨flatN ph, true, 1⟩, some ⟨flatN (dfL ts ph), true, 1⟩, some ⟨flatP l, true, 2⟩, some ⟨flatT ts, true, 3⟩, some ⟨flatN ph, true, 1⟩, some ⟨flatN (clL ts ph), true, 1⟩, some ⟨flatN (dfL ts ph), true, 1⟩, some ⟨flatN (clL ts ph), true, 1⟩, some ⟨flatP l, true, 2⟩, some ⟨flatT ts, true, 3⟩, some ⟨flatP (sdL ts), true, 2⟩]) (ts.length) (by exact ⟨0, rfl, Nat.zero_le _, by rw [zs]; rfl, rfl⟩) ?_); (rintro n' t' m ⟨q, rfl, hq, rfl, rfl⟩); (refine AW.nT ?_)) | refine AW.block ?_ | (refine AW.region (id := 19) ?_; ((have q1 := hbb k (by omega); have q2 := hxb k (by omega)))) | (refine AW.region (id := 23) ?_; ((obtain rfl : k = (edL ts).length := (by omega)))) | (refine AW.region (id := 26) ?_; ((have q1 := hsb q (by omega); have q2 := hcb q (by omega)))) | (refine AW.region (id := 27) ?_; ((obtain rfl : q = ts.length := (by omega); have q1 := hsb ts.length (Nat.le_refl _)))) | refine AW.region ?_ | (refine AW.conds rfl (fun hc => ?_) (fun hc => ?_) <;> (try replace hc := nc hc) <;> first | (exfalso; first | contradiction | (omega); done) | skip)) | ((with_reducible refine ex_on ?_); first | (((first | rw [← s1 k ‹_› ‹_›] | rw [← s2 k ‹_› ‹_›] | rw [← s3 k ‹_› ‹_›] | rw [← s4 k ‹_› ‹_›]); refine ⟨(edL ts).length - (k + 1), (mtz 146 0 [(5, .slice (some ⟨7, 0, none⟩) ((edL ts).length) INF), (7, .slice (some ⟨11, 0, none⟩) ts.length ts.length), (10, .slice (some ⟨16, 0, none⟩) ((edL ts).length) INF), (12, .int .i64 (BK (k + 1))), (13, .int .i64 (0)), (14, .int .i64 (k + 1))]), _, by omega, ?_, k + 1, rfl, by omega, rfl, rfl⟩; exact Wk.fk [5, 7, 10, 12, 13, 14] rfl)) | ((rw [← ss q]; refine ⟨ts.length - (q + 1), (mtz 146 0 [(7, .slice (some ⟨11, 0, none⟩) ts.length ts.length), (12, .int .i64 (BK (edL ts).length)), (13, .int .i64 (SK (q + 1))), (15, .int .i64 (q + 1))]), _, by omega, ?_, q + 1, rfl, by omega, rfl, rfl⟩; exact Wk.fk [7, 12, 13, 15] rfl))) | ((with_reducible refine FinP.on ?_); (refine FinP.ret (.tmp wl .nil) ?_ rfl); (try simp only [pack, List.drop, List.take]); all_goals ((rw [decide_eq_true (by omega)]))))
theorem MeshCloses_q (v w u : Value) (l : List Pn) (ts : List T3) (ph : List Int) (hv : SlV [Ls.blX (flatP l), Ls.blX (flatT ts)] 0 v (flatP l) l.length) (hw : SlV [Ls.blX (flatP l), Ls.blX (flatT ts)] 1 w (flatT ts) ts.length) (hu : SlV [Ls.blX (flatP l), Ls.blX (flatT ts), Ls.blX (flatN ph)] 2 u (flatN ph) ph.length) (hl : (l.length : Int) ≤ 9223372036854775807) (ht : (ts.length : Int) ≤ 9223372036854775807) :
    PCalls Tryz.prog 5 [.agg #[v, w], u] [Ls.blX (flatP l), Ls.blX (flatT ts), Ls.blX (flatN ph)] (.bool true) := by
  have hr := ro_bl3 (flatP l) (flatT ts) (flatN ph)
  cases hli : liB l ts with
  | false => exact MeshCloses_f v w u l ts _ _ _ hr hv hw hl ht hli
  | true =>
    obtain ⟨xa, c, rfl⟩ : ∃ xa c, u = .slice xa ph.length c := by
      rcases hu with ⟨k, h0, h1, h2, h3, h4⟩ | ⟨h1, h2⟩ | ⟨h1, h2⟩
      · exact ⟨_, _, h1⟩
      · exact ⟨none, 0, by rw [h1]; exact h2⟩
      · exact ⟨_, 0, by rw [h1]; exact h2⟩
    by_cases hp : 45 < ph.length
    · exact MeshCloses_g v w xa c l ts ph _ _ _ hr hv hw hl ht hli hp
    · by_cases he : neE l ts ph = 0
      · have he1 : netE l ts = 0 := Classical.not_not.1 fun h => by
          unfold neE at he
          rw [if_pos h] at he
          exact h he
        have hph : phE l ph = 0 := by
          unfold neE at he
          rw [if_neg (fun h => h he1)] at he
          exact he
        have hR := netE_0.1 he1
        have h0 : 0 < ts.length := hR.g.1
        have h2 := two_of hR.all h0
        obtain ⟨hpl, _⟩ := phE_0 hph
        have h1 := MeshCloses_y l ts ph hli hR hph (by omega)
        have e1 : Ls.blX (flatP l) = some ⟨flatP l, false, 0⟩ := if_neg (fun h => by have := (flatP_nil l).1 h; omega)
        have e2 : Ls.blX (flatT ts) = some ⟨flatT ts, false, 0⟩ := if_neg (fun h => by have := (flatT_nil ts).1 h; omega)
        have e3 : Ls.blX (flatN ph) = some ⟨flatN ph, false, 0⟩ := if_neg (fun h => by have := (flatN_nil ph).1 h; omega)
        rw [(hv.pos (by omega)).1, (hw.pos h0).1, (hu.pos (by omega)).1, e1, e2, e3]
        exact h1
      · exact MeshCloses_e v w xa c l ts ph hv hw hu hl ht (by omega) hli he
end Go.Proofs.YtmohcmghbfhdlaaGreat
end

section
namespace Go.Proofs.YtmohcmghbfhdlaaGreat.MeshCloses
open Go.ChangeShapes Go.WideShapes Go.ChangeAt Go Go.RowKit Go.Ab Go.Ls Go.Me Go.Proofs.YtmohcmghbfhdlaaGreat
set_option maxRecDepth 100000
theorem walk {W : World} (a : Option Addr) (l : List Pn) (cap : Nat) (b : Option Addr) (ts : List T3) (cat : Nat) (hcap : l.length ≤ cap) (hcm : cap ≤ maxLen) (hS : SlX W a (flatP l)) (hz : a = none → cap = 0) (hcat : ts.length ≤ cat) (hcmt : cat ≤ maxLen) (hT : SlX W b (flatT ts)) (hzt : b = none → cat = 0)
    (d : Option Addr) (ph : List Int) (cad : Nat) (hcad : ph.length ≤ cad) (hcmd : cad ≤ maxLen) (hN : SlX W d (flatN ph)) (hzd : d = none → cad = 0) :
    Calls Tryz.prog 5 #[.agg #[.slice a l.length cap, .slice b ts.length cat], .slice d ph.length cad] W fun e w' => e = .returned (.bool true) ∧ Below W.heap.size W w' := by
  simp only [maxLen] at hcm hcmt
  refine glueL (args := [argN 0 a b l ts, vaX 2 ph.length d.isNone]) [(a, flatP l), (b, flatT ts), (d, flatN ph)] (fun x hx => ?_) ?_ (MeshCloses_q _ _ _ l ts ph (.arg rfl (flatP_nil l)) (.arg rfl (flatT_nil ts)) (.arg rfl (flatN_nil ph)) (by omega) (by omega))
  · simp only [List.mem_cons, List.not_mem_nil, or_false] at hx
    rcases hx with rfl | rfl | rfl
    · exact ⟨flatP_scal l, hS⟩
    · exact ⟨flatT_scal ts, hT⟩
    · exact ⟨flatN_scal ph, hN⟩
  · refine .tuple rfl fun i h h' => ?_
    match i, h with
    | 0, _ => exact argN_rel hS hT hcap hcat hz hzt rfl rfl
    | 1, _ => exact vaX_rel hN (flatN_nil ph) hcad hzd rfl
    | i + 2, h => exact absurd h (by simp)

set_option maxRecDepth 100000 in
theorem lifted (os : Os) (started : os.Started) (H : Type) (enc : TypeId × Value → H) :
    ReturnsInHanded {} Tryz.checked os 5 .any (Rows.meshClosesSpec.pre6 enc Tryz.prog Tryz.f5 Rows.meshClosesRow.domain false) (Rows.meshClosesSpec.post enc Tryz.prog Tryz.f5 false true false false) := by
  refine returnsInHanded_of_change (C := Tryz.checked) own started (by kernel_rfl) Tryz.func5
    (ChangeSpec.witness6 (enc := enc) (C := Tryz.checked) false ⟨#[], #[.agg #[.slice none 0 0, .slice none 0 0], .slice none 0 0], []⟩ 8 (by kernel_rfl) (by kernel_rfl) (by kernel_rfl) (by kernel_rfl)) ?_
  intro W base args ds gs before hval0 hW hcnd _
  have hval : ∀ (j : Nat) t v, Tryz.f5.params[j]? = some t → args[j]? = some v → Value.okWide Tryz.prog W .any base t v := hval0
  have hW' := hW
  obtain ⟨p, q, hA0, hV, rfl, hfz, hnd⟩ := hW
  have hA : DataW.TrodAll enc Tryz.prog W 0 (fun _ => true) true Tryz.f5.params.toList args.toList ds p := hA0
  rw [Tryz.params5] at hA hval
  obtain ⟨v0, vs0, d0, ds0, p0, q0, hargs, rfl, rfl, h0, r0⟩ := trodAll_cons hA
  obtain ⟨v1, vs1, d1, ds1, p1, q1, rfl, rfl, rfl, h1, r1⟩ := trodAll_cons r0
  obtain ⟨rfl, rfl, rfl⟩ := trodAll_nil r1
  obtain rfl : args = #[v0, v1] := by cases args; simp_all
  obtain ⟨rfl, rfl⟩ := trodVars_none hV
  clear hA0 hval0
  have hlt := hW'.lt
  have g0 := h0
  have g1 := h1
  obtain ⟨a0, l0, cap0, b0, t0, cat0, rfl, hcap0, hcm0, hS0, hz0, hcat0, hcmt0, hT0, hzt0⟩ := open_MN (hval 0 25 v0 rfl rfl) h0
  obtain ⟨a1, l1, cap1, rfl, hcap1, hcm1, hS1, hz1⟩ := open_IS (hval 1 26 v1 rfl rfl) h1
  simp only [List.append_nil] at hW' hlt ⊢
  refine (walk a0 l0 cap0 b0 t0 cat0 hcap0 hcm0 hS0 hz0 hcat0 hcmt0 hT0 hzt0 a1 l1 cap1 hcap1 hcm1 hS1 hz1).mono fun e W' ⟨he, hb⟩ => ?_
  subst he
  have stay : ∀ (t : TypeId) v d ps (sp : Nat → Bool), Tryz.prog.readableRec t = true → t < Tryz.prog.types.size → DataW.Trod enc Tryz.prog W 0 (fun _ => true) true t v d ps → (∀ x ∈ ps, x.block < W.heap.size) → (∀ x ∈ ps, sp x.block = true) → DataW.Trod enc Tryz.prog W' 0 sp true t v d ps :=
    fun t v d ps sp hr ht h hx hs => Go.WideElems.Trod_stays laid hr ht h (fun x hxp => hb.same (hx x hxp)) hs
  exact ⟨_, rfl, post_below (pa := p0 ++ (p1 ++ [])) (pv := []) hW' (fun _ _ _ => trodAll_mk1 (shut_bool Tryz.underlying4 true)) (fun sp hs => (trodAll_cons_mk (stay 25 _ _ _ sp (by kernel_rfl) (of_decide_eq_true (by kernel_rfl)) g0 (fun x hx => hlt x (by simp [hx])) (fun x hx => hs x (by simp [hx]))) (trodAll_cons_mk (stay 26 _ _ _ sp (by kernel_rfl) (of_decide_eq_true (by kernel_rfl)) g1 (fun x hx => hlt x (by simp [hx])) (fun x hx => hs x (by simp [hx]))) (trodAll_mk0)))) (fun _ _ => rfl) (by simp)
    hb (ok_one (by kernel_rfl) rfl (okWide_bool_mk Tryz.underlying4 true))⟩

theorem over : Rows.meshClosesRow.holds Tryz.pinned (OpenSpec.ofChange Rows.meshClosesSpec) :=
  OpenClaim.holds_of_wide 5 Tryz.f5 rfl rfl rfl rfl rfl rfl rfl ⟨rfl, rfl, rfl, rfl, rfl⟩ rfl rfl rfl rfl rfl (by kernel_rfl) Tryz.func5 (by kernel_rfl)
    (of_decide_eq_true (by kernel_rfl)) (by unfold Func.isWrapper; first | (rw [if_pos (by decide +kernel)]; kernel_rfl) | (rw [if_neg (by decide +kernel)]; exact ⟨rfl, rfl⟩))
    (fun os started H enc _ => lifted os started H enc)

theorem proved : Rows.MeshClosesSaid := over
#print axioms proved
end Go.Proofs.YtmohcmghbfhdlaaGreat.MeshCloses
end
