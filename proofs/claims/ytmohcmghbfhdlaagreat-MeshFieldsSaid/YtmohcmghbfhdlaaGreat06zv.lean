/- MeshFields: the field of right turns is as specified, or the errors; each phase differs from the wrapped one by whole turns, and the wrapped differences stay. -/
import Derived.Test.YtmohcmghbfhdlaaGreatQd
import Derived.Test.YtmohcmghbfhdlaaGreatRows
import Derived.Test.YtmohcmghbfhdlaaGreatQj
import Derived.Test.YtmohcmghbfhdlaaGreatQx
import Derived.Test.YtmohcmghbfhdlaaGreatRa
import Derived.Test.YtmohcmghbfhdlaaGreatRd
import Derived.Test.YtmohcmghbfhdlaaGreatRe
set_option linter.unusedSimpArgs false
set_option linter.unusedVariables false
section
namespace Go.Me
open Go.Ab
theorem ro_bl4 (a b c d : List Value) : Mem.ro [Ls.blX a, Ls.blX b, Ls.blX c, Ls.blX d] := fun k blk hk => by
 match k, hk with
 | 0, hk => exact Ls.blX_ro a _ hk
 | 1, hk => exact Ls.blX_ro b _ hk
 | 2, hk => exact Ls.blX_ro c _ hk
 | 3, hk => exact Ls.blX_ro d _ hk
 | k + 4, hk => simp [Mem.at] at hk
theorem SlV.sl {m : Mem} {i n : Nat} {v : Value} {cs : List Value} (h : SlV m i v cs n) : ∃ xa c, v = .slice xa n c := by
 rcases h with ⟨k, h0, h1, h2, h3, h4⟩ | ⟨h1, h2⟩ | ⟨h1, h2⟩
 ·exact ⟨_, _, h1⟩
 ·exact ⟨none, 0, by rw [h1]; exact h2⟩
 ·exact ⟨_, 0, by rw [h1]; exact h2⟩
end Go.Me
namespace Go.Proofs.YtmohcmghbfhdlaaGreat
open Go Go.RowKit Go.Ab Go.Me
set_option maxRecDepth 100000
set_option maxHeartbeats 4000000
attribute [local irreducible] OQ OW AL AW AF SW
theorem fstN_ge (f : Nat → Int) : ∀ n, -1 ≤ fstN f n
 | 0 => by unfold fstN; omega
 | n + 1 => by
  have := fstN_ge f n
  unfold fstN
  split
  ·exact this
  ·split <;> omega
theorem fdE_ne {l : List Pn} {ts : List T3} {ph xs : List Int} : fdE l ts ph xs = if neE l ts ph ≠ 0 then neE l ts ph else tuE ts ph xs := rfl
theorem MeshFields_f (v w u x : Value) (l : List Pn) (ts : List T3) (o1 o2 o3 o4 : Option Blk) (hr : Mem.ro [o1, o2, o3, o4]) (hv : SlV [o1, o2] 0 v (flatP l) l.length) (hw : SlV [o1, o2] 1 w (flatT ts) ts.length) (hl : (l.length : Int) ≤ 9223372036854775807) (ht : (ts.length : Int) ≤ 9223372036854775807) (he : liB l ts = false) :
  PCalls Tryz.prog 3 [.agg #[v, w], u, x] [o1, o2, o3, o4] (.bool true) := by
 have hLi := fun (m : Mem) (e0 : m.at 0 = Mem.at [o1, o2] 0) (e1 : m.at 1 = Mem.at [o1, o2] 1) => Light_g (m := m) (hv.of e0) (hw.of e1) hl ht
 rw [he] at hLi
 refine PCalls.en 115 Tryz.func3 rfl (hr) rfl (fun E => ?_)
 repeat' (first | with_reducible (first | refine Then.n ?_ | refine Then.r ?_) | ((with_reducible refine AL.on ?_); first | (refine AL.gd rfl ?_; (refine AL.gs0 rfl rfl (fun hc => ?_) (fun hc => ?_) <;> (try replace hc := nc hc) <;> first | (exfalso; contradiction) | refine AL.nm ?_)) | ((first | refine AL.mv ?_ | ((with_reducible refine AL.k_call ?_); refine AL.g (OQ.lenS (xt := 26) (r := (none, 1, false)) rfl kr) ?_) | refine AL.as ?_ | ((with_reducible refine AL.k_binOp ?_); refine AL.g (OQ.gtr rfl rfl) ?_) | ((with_reducible refine AL.k_load ?_); refine AL.g (OQ.loadN (ty := 25) (n := 2) rfl kr kr rfl) ?_) | ((with_reducible refine AL.k_pick ?_); first | refine AL.pT ?_ | refine AL.pF ?_) | ((with_reducible refine AL.k_unOp ?_); refine AL.g (OQ.not rfl) ?_)); refine AL.nm ?_) | ((first | refine AL.pcall (g := 12) rfl kr rfl ((by exact awake_q _)) ?_ | refine AL.pcall (g := 13) rfl kr rfl ((by exact hLi _ rfl rfl)) ?_); refine AL.nm ?_) | ((refine AL.bx ?_); refine AL.nm ?_; refine AL.nM ?_) | refine AL.nil ?_) | ((with_reducible refine AW.on ?_); first | refine AW.seq ?_ | refine AW.skip ?_ | refine AW.ret ?_ | refine AW.region ?_ | (refine AW.conds rfl (fun hc => ?_) (fun hc => ?_) <;> (try replace hc := nc hc) <;> first | (exfalso; first | contradiction | (omega); done) | skip)) | ((with_reducible refine FinP.on ?_); (refine FinP.ret (.tmp wl .nil) ?_ rfl); (try simp only [pack, List.drop, List.take]); all_goals (rfl)))
theorem MeshFields_g (v w : Value) (xa xb : Option Addr) (c d : Nat) (l : List Pn) (ts : List T3) (ph xs : List Int) (o1 o2 o3 o4 : Option Blk) (hr : Mem.ro [o1, o2, o3, o4]) (hv : SlV [o1, o2] 0 v (flatP l) l.length) (hw : SlV [o1, o2] 1 w (flatT ts) ts.length) (hl : (l.length : Int) ≤ 9223372036854775807) (ht : (ts.length : Int) ≤ 9223372036854775807) (he : liB l ts = true) (hp : 45 < ph.length ∨ 30 < xs.length) :
  PCalls Tryz.prog 3 [.agg #[v, w], .slice xa ph.length c, .slice xb xs.length d] [o1, o2, o3, o4] (.bool true) := by
 have hLi := fun (m : Mem) (e0 : m.at 0 = Mem.at [o1, o2] 0) (e1 : m.at 1 = Mem.at [o1, o2] 1) => Light_g (m := m) (hv.of e0) (hw.of e1) hl ht
 rw [he] at hLi
 refine PCalls.en 115 Tryz.func3 rfl (hr) rfl (fun E => ?_)
 repeat' (first | with_reducible (first | refine Then.n ?_ | refine Then.r ?_) | ((with_reducible refine AL.on ?_); first | (refine AL.gd rfl ?_; (refine AL.gs0 rfl rfl (fun hc => ?_) (fun hc => ?_) <;> (try replace hc := nc hc) <;> first | (exfalso; contradiction) | refine AL.nm ?_)) | ((first | refine AL.mv ?_ | ((with_reducible refine AL.k_call ?_); refine AL.g (OQ.lenS (xt := 26) (r := (none, 1, false)) rfl kr) ?_) | refine AL.as ?_ | ((with_reducible refine AL.k_binOp ?_); refine AL.g (OQ.gtr rfl rfl) ?_) | ((with_reducible refine AL.k_load ?_); refine AL.g (OQ.loadN (ty := 25) (n := 2) rfl kr kr rfl) ?_) | ((with_reducible refine AL.k_pick ?_); first | refine AL.pT ?_ | refine AL.pF ?_) | ((with_reducible refine AL.k_unOp ?_); refine AL.g (OQ.not rfl) ?_)); refine AL.nm ?_) | ((first | refine AL.pcall (g := 12) rfl kr rfl ((by exact awake_q _)) ?_ | refine AL.pcall (g := 13) rfl kr rfl ((by exact hLi _ rfl rfl)) ?_); refine AL.nm ?_) | ((refine AL.bx ?_); refine AL.nm ?_; refine AL.nM ?_) | refine AL.nil ?_) | ((with_reducible refine AW.on ?_); first | refine AW.seq ?_ | refine AW.skip ?_ | refine AW.ret ?_ | refine AW.region ?_ | (refine AW.conds rfl (fun hc => ?_) (fun hc => ?_) <;> (try replace hc := nc hc) <;> first | (exfalso; first | contradiction | (omega); done) | skip)) | ((with_reducible refine FinP.on ?_); (refine FinP.ret (.tmp wl .nil) ?_ rfl); (try simp only [pack, List.drop, List.take]); all_goals (rfl)))
theorem MeshFields_e (v w : Value) (xa xb : Option Addr) (c0 d0 : Nat) (l : List Pn) (ts : List T3) (ph xs : List Int) (hv : SlV [Ls.blX (flatP l), Ls.blX (flatT ts)] 0 v (flatP l) l.length) (hw : SlV [Ls.blX (flatP l), Ls.blX (flatT ts)] 1 w (flatT ts) ts.length) (hu : SlV [Ls.blX (flatP l), Ls.blX (flatT ts), Ls.blX (flatN ph)] 2 (.slice xa ph.length c0) (flatN ph) ph.length) (hx : SlV [Ls.blX (flatP l), Ls.blX (flatT ts), Ls.blX (flatN ph), Ls.blX (flatN xs)] 3 (.slice xb xs.length d0) (flatN xs) xs.length) (hl : (l.length : Int) ≤ 9223372036854775807) (ht : (ts.length : Int) ≤ 9223372036854775807) (hp : ph.length ≤ 45) (hq : xs.length ≤ 30) (hli : liB l ts = true) (he : neE l ts ph ≠ 0) :
  PCalls Tryz.prog 3 [.agg #[v, w], .slice xa ph.length c0, .slice xb xs.length d0] [Ls.blX (flatP l), Ls.blX (flatT ts), Ls.blX (flatN ph), Ls.blX (flatN xs)] (.bool true) := by
 obtain ⟨l1, l2⟩ := liB_le hli
 have hLi := fun (m : Mem) (e0 : m.at 0 = Ls.blX (flatP l)) (e1 : m.at 1 = Ls.blX (flatT ts)) => Light_g (m := m) (hv.of (m' := m) e0) (hw.of (m' := m) e1) hl ht
 rw [hli] at hLi
 have hC := fun (m : Mem) (e0 : m.at 0 = Ls.blX (flatP l)) (e1 : m.at 1 = Ls.blX (flatT ts)) => Copy_g (m := m) (by decide) (hv.of (m' := m) e0) (hw.of (m' := m) e1) (by omega) (by omega)
 have hI := fun (m : Mem) (e2 : m.at 2 = Ls.blX (flatN ph)) => CopyInts_g (m := m) (hu.of (m' := m) e2) (by omega)
 have hJ := fun (m : Mem) (e2 : m.at 3 = Ls.blX (flatN xs)) => CopyInts_g (m := m) (hx.of (m' := m) e2) (by omega)
 have hfe : fdE l ts ph xs = neE l ts ph := by rw [fdE_ne, if_pos he]
 have hF := fun (m : Mem) (bP bT bF bX : Nat) (F X : Blk) (c c2 c3 c4 : Nat) (hA : ArgN m bP bT l ts) (f1 : m.at bF = some F) (f2 : F.cells = flatN ph) (f3 : F.obj = Ob.plain) (x1 : m.at bX = some X) (x2 : X.cells = flatN xs) (x3 : X.obj = Ob.plain) => Field_e (c := c) (c2 := c2) (c3 := c3) (c4 := c4) l ts ph xs hA rfl rfl f1 f2 rfl x1 x2 rfl (by rw [hfe]; exact he) (by omega) (by omega) (by omega) f3 x3
 have hrN := fun (m : Mem) (e0 : m.at 0 = Ls.blX (flatP l)) (e1 : m.at 1 = Ls.blX (flatT ts)) (e2 : m.at 2 = Ls.blX (flatN ph)) => NetErr_g (m := m) e0 e1 e2 hv hw hu (by omega) ht (by omega)
 have hr := ro_bl4 (flatP l) (flatT ts) (flatN ph) (flatN xs)
 rw [hfe] at hF
 clear hfe
 generalize neE l ts ph = E0 at *
 generalize Ls.blX (flatP l) = o1 at *
 generalize Ls.blX (flatT ts) = o2 at *
 generalize Ls.blX (flatN ph) = o3 at *
 generalize Ls.blX (flatN xs) = o4 at *
 refine PCalls.en 115 Tryz.func3 rfl (hr) rfl (fun E => ?_)
 repeat' (first | with_reducible (first | refine Then.n ?_ | refine Then.r ?_) | ((with_reducible refine AL.on ?_); first | (refine AL.gd rfl ?_; first | (refine AL.gs1 rfl rfl (fun hc => ?_) (fun hc => ?_) <;> (try replace hc := nc hc) <;> first | (exfalso; contradiction) | refine AL.nm ?_) | (refine AL.gs0 rfl rfl (fun hc => ?_) (fun hc => ?_) <;> (try replace hc := nc hc) <;> first | (exfalso; first | contradiction | (omega); done) | refine AL.nm ?_)) | ((first | refine AL.mv ?_ | ((with_reducible refine AL.k_call ?_); refine AL.g (OQ.lenS (xt := 26) (r := (none, 1, false)) rfl kr) ?_) | refine AL.as ?_ | ((with_reducible refine AL.k_binOp ?_); first | refine AL.g (OQ.gtr rfl rfl) ?_ | refine AL.g (OQ.eql rfl rfl) ?_ | refine AL.g (OQ.neq rfl rfl) ?_) | ((with_reducible refine AL.k_load ?_); refine AL.g (OQ.loadN (ty := 25) (n := 2) rfl kr kr rfl) ?_) | ((with_reducible refine AL.k_pick ?_); first | refine AL.pT ?_ | refine AL.pF ?_) | refine AL.et ?_ | ((with_reducible refine AL.k_unOp ?_); refine AL.g (OQ.not rfl) ?_)); refine AL.nm ?_) | ((first | refine AL.pcall (g := 12) rfl kr rfl ((by exact awake_q _)) ?_ | refine AL.pcall (g := 13) rfl kr rfl ((by exact hLi _ rfl rfl)) ?_ | refine AL.pcall (g := 14) rfl kr rfl ((by exact hF _ _ _ _ _ _ _ _ _ _ _ ⟨⟨_, rfl, rfl, .inr rfl, rfl⟩, ⟨_, rfl, rfl, rfl⟩, by decide⟩ rfl rfl rfl rfl rfl rfl)) ?_ | refine AL.pcall (g := 17) rfl kr rfl ((by exact hrN _ rfl rfl rfl)) ?_); refine AL.nm ?_) | ((first | ((with_reducible refine AL.k_call ?_); first | refine AL.acall (g := 15) rfl kr rfl ((by exact hC _ rfl rfl)) ?_ | refine AL.acall (g := 16) rfl kr rfl ((by first | exact hI _ rfl | exact hJ _ rfl)) ?_) | refine AL.bx ?_); refine AL.nm ?_; refine AL.nM ?_) | refine AL.nil ?_) | ((with_reducible refine AW.on ?_); first | refine AW.seq ?_ | refine AW.skip ?_ | refine AW.ret ?_ | refine AW.region ?_ | (refine AW.conds rfl (fun hc => ?_) (fun hc => ?_) <;> (try replace hc := nc hc) <;> first | (exfalso; first | contradiction | (omega); done) | skip)) | ((with_reducible refine FinP.on ?_); (refine FinP.ret (.tmp wl .nil) ?_ rfl); (try simp only [pack, List.drop, List.take]); all_goals (rfl)))
theorem MeshFields_t (xb : Option Addr) (d0 : Nat) (l : List Pn) (ts : List T3) (ph xs : List Int) (o4 : Option Blk) (hr : Mem.ro [some ⟨flatP l, false, 0⟩, some ⟨flatT ts, false, 0⟩, some ⟨flatN ph, false, 0⟩, o4]) (hx : SlV [some ⟨flatP l, false, 0⟩, some ⟨flatT ts, false, 0⟩, some ⟨flatN ph, false, 0⟩, o4] 3 (.slice xb xs.length d0) (flatN xs) xs.length) (hli : liB l ts = true) (hR : NetR l ts) (hph : phE l ph = 0) (hp : ph.length ≤ 45) (hq : xs.length ≤ 30) (he : tuR ts xs ≠ 0) :
  PCalls Tryz.prog 3 [.agg #[.slice (some ⟨0, 0, none⟩) l.length INF, .slice (some ⟨1, 0, none⟩) ts.length INF], .slice (some ⟨2, 0, none⟩) ph.length INF, .slice xb xs.length d0] [some ⟨flatP l, false, 0⟩, some ⟨flatT ts, false, 0⟩, some ⟨flatN ph, false, 0⟩, o4] (.bool true) := by
 obtain ⟨l1, l2⟩ := liB_le hli
 have h0 : 0 < ts.length := hR.g.1
 have h2 := two_of hR.all h0
 have hle := edL_le ts
 have h80 := hR.le
 have h40 := (cp_ok hR.cp).1
 obtain ⟨hpl, hpb⟩ := phE_0 hph
 have e1 : Ls.blX (flatP l) = some ⟨flatP l, false, 0⟩ := if_neg (fun h => by have := (flatP_nil l).1 h; omega)
 have e2 : Ls.blX (flatT ts) = some ⟨flatT ts, false, 0⟩ := if_neg (fun h => by have := (flatT_nil ts).1 h; omega)
 have e3 : Ls.blX (flatN ph) = some ⟨flatN ph, false, 0⟩ := if_neg (fun h => by have := (flatN_nil ph).1 h; omega)
 have hne : neE l ts ph = 0 := by
  unfold neE
  rw [netE_0.2 hR, hph]
  rfl
 have hrN : ∀ (m : Mem) (e0 : m.at 0 = some ⟨flatP l, false, 0⟩) (e1 : m.at 1 = some ⟨flatT ts, false, 0⟩) (e2 : m.at 2 = some ⟨flatN ph, false, 0⟩), PCalls Tryz.prog 17 [.agg #[.slice (some ⟨0, 0, none⟩) l.length INF, .slice (some ⟨1, 0, none⟩) ts.length INF], .slice (some ⟨2, 0, none⟩) ph.length INF] m (.int .i64 0) := fun m m0 m1 m2 => by
  have h := NetErr_g (m := m) (l := l) (ts := ts) (ph := ph) (v := .slice (some ⟨0, 0, none⟩) l.length INF) (w := .slice (some ⟨1, 0, none⟩) ts.length INF) (u := .slice (some ⟨2, 0, none⟩) ph.length INF) (by rw [e1]; exact m0) (by rw [e2]; exact m1) (by rw [e3]; exact m2) (.blk _ (by omega) rfl e1 rfl rfl) (.blk _ h0 rfl e2 rfl rfl) (.blk _ (by omega) rfl e3 rfl rfl) (by omega) (by omega) (by omega)
  rw [hne] at h
  exact h
 have hLi := fun (m : Mem) (A B : Blk) (a1 : m.at 0 = some A) (a2 : A.cells = flatP l) (b1 : m.at 1 = some B) (b2 : B.cells = flatT ts) (a3 : A.obj = Ob.plain) (b3 : B.obj = Ob.plain) => Light_g (m := m) (i := 0) (j := 1) (.blk A (by omega) rfl a1 a2 a3) (.blk B h0 rfl b1 b2 b3) (by omega) (by omega)
 rw [hli] at hLi
 have hC := fun (m : Mem) (A B : Blk) (a1 : m.at 0 = some A) (a2 : A.cells = flatP l) (b1 : m.at 1 = some B) (b2 : B.cells = flatT ts) (a3 : A.obj = Ob.plain) (b3 : B.obj = Ob.plain) => Copy_y (m := m) (i := 0) (j := 1) (by decide) (by omega) h0 (by omega) (by omega) a1 a2 b1 b2 a3 b3
 have hI : ∀ (m : Mem) (A : Blk) (a1 : m.at 2 = some A) (a2 : A.cells = flatN ph) (a3 : A.obj = Ob.plain), ACalls Tryz.prog 16 [.slice (some ⟨2, 0, none⟩) ph.length INF] m (.slice (some ⟨m.length, 0, none⟩) ph.length INF) (m ++ [some ⟨flatN ph, true, 1⟩]) := fun m A a1 a2 a3 => by
  have h := CopyInts_g (m := m) (i := 2) (.blk A (by omega) rfl a1 a2 a3) (by omega)
  rw [show cpC ph.length = INF from if_neg (by omega)] at h
  exact h
 have hJ := fun (m : Mem) (e2 : m.at 3 = o4) => CopyInts_g (m := m) (hx.of (m' := m) e2) (by omega)
 have hfe : fdE l ts ph xs = tuR ts xs := by rw [fdE_ne, hne, tuE_R, if_neg (fun h => h rfl), if_pos he]
 have hF := fun (m : Mem) (bP bT bF bX : Nat) (F X : Blk) (c c2 c3 c4 : Nat) (hA : ArgN m bP bT l ts) (f1 : m.at bF = some F) (f2 : F.cells = flatN ph) (f3 : F.obj = Ob.plain) (x1 : m.at bX = some X) (x2 : X.cells = flatN xs) (x3 : X.obj = Ob.plain) => Field_e (c := c) (c2 := c2) (c3 := c3) (c4 := c4) l ts ph xs hA rfl rfl f1 f2 rfl x1 x2 rfl (by rw [hfe]; exact he) (by omega) (by omega) (by omega) f3 x3
 rw [hfe] at hF
 have hT := fun (m : Mem) (A B : Blk) (a1 : m.at 0 = some A) (a2 : A.cells = flatP l) (b1 : m.at 1 = some B) (b2 : B.cells = flatT ts) (e4 : m.at 3 = o4) (a3 : A.obj = Ob.plain) (b3 : B.obj = Ob.plain) (a4 : A.esz = 0) (b4 : B.esz = 0) => rTurnsErr_q (m := m) hR INF INF (hx.of (m' := m) e4) (by omega) (by decide) a1 a2 b1 b2 a3 b3 a4 b4
 clear hfe
 generalize tuR ts xs = E0 at *
 refine PCalls.en 115 Tryz.func3 rfl (hr) rfl (fun E => ?_)
 repeat' (first | with_reducible (first | refine Then.n ?_ | refine Then.r ?_) | ((with_reducible refine AL.on ?_); first | (refine AL.gd rfl ?_; first | (refine AL.gs1 rfl rfl (fun hc => ?_) (fun hc => ?_) <;> (try replace hc := nc hc) <;> first | (exfalso; contradiction) | refine AL.nm ?_) | (refine AL.gs0 rfl rfl (fun hc => ?_) (fun hc => ?_) <;> (try replace hc := nc hc) <;> first | (exfalso; first | contradiction | (omega); done) | refine AL.nm ?_)) | ((first | refine AL.mv ?_ | ((with_reducible refine AL.k_call ?_); refine AL.g (OQ.lenS (xt := 26) (r := (none, 1, false)) rfl kr) ?_) | refine AL.as ?_ | ((with_reducible refine AL.k_binOp ?_); first | refine AL.g (OQ.gtr rfl rfl) ?_ | refine AL.g (OQ.eql rfl rfl) ?_ | refine AL.g (OQ.neq rfl rfl) ?_) | ((with_reducible refine AL.k_load ?_); refine AL.g (OQ.loadN (ty := 25) (n := 2) rfl kr kr rfl) ?_) | ((with_reducible refine AL.k_pick ?_); first | refine AL.pT ?_ | refine AL.pF ?_) | refine AL.et ?_ | ((with_reducible refine AL.k_unOp ?_); refine AL.g (OQ.not rfl) ?_)); refine AL.nm ?_) | ((first | refine AL.pcall (g := 12) rfl kr rfl ((by exact awake_q _)) ?_ | refine AL.pcall (g := 13) rfl kr rfl ((by exact hLi _ _ _ rfl rfl rfl rfl rfl rfl)) ?_ | refine AL.pcall (g := 14) rfl kr rfl ((by exact hF _ _ _ _ _ _ _ _ _ _ _ ⟨⟨_, rfl, rfl, .inr rfl, rfl⟩, ⟨_, rfl, rfl, rfl⟩, by decide⟩ rfl rfl rfl rfl rfl rfl)) ?_ | refine AL.pcall (g := 17) rfl kr rfl ((by exact hrN _ rfl rfl rfl)) ?_ | refine AL.pcall (g := 18) rfl kr rfl ((by exact hT _ _ _ rfl rfl rfl rfl rfl rfl rfl rfl rfl)) ?_); refine AL.nm ?_) | ((first | ((with_reducible refine AL.k_call ?_); first | refine AL.acall (g := 15) rfl kr rfl ((by exact hC _ _ _ rfl rfl rfl rfl rfl rfl)) ?_ | refine AL.acall (g := 16) rfl kr rfl ((by first | exact hI _ _ rfl rfl rfl | exact hJ _ rfl)) ?_) | refine AL.bx ?_); refine AL.nm ?_; refine AL.nM ?_) | refine AL.nil ?_) | ((with_reducible refine AW.on ?_); first | refine AW.seq ?_ | refine AW.skip ?_ | refine AW.ret ?_ | refine AW.region ?_ | (refine AW.conds rfl (fun hc => ?_) (fun hc => ?_) <;> (try replace hc := nc hc) <;> first | (exfalso; first | contradiction | (omega); done) | skip)) | ((with_reducible refine FinP.on ?_); (refine FinP.ret (.tmp wl .nil) ?_ rfl); (try simp only [pack, List.drop, List.take]); all_goals (rfl)))
theorem MeshFields_c (l : List Pn) (ts : List T3) (ph xs : List Int) (hli : liB l ts = true) (hR : NetR l ts) (hph : phE l ph = 0) (htu : tuR ts xs = 0) (hp : ph.length ≤ 45) (hq : xs.length ≤ 30) (he : fstN (tuT ts ph xs) ts.length ≠ -1) :
  PCalls Tryz.prog 3 [.agg #[.slice (some ⟨0, 0, none⟩) l.length INF, .slice (some ⟨1, 0, none⟩) ts.length INF], .slice (some ⟨2, 0, none⟩) ph.length INF, .slice (some ⟨3, 0, none⟩) xs.length INF] [some ⟨flatP l, false, 0⟩, some ⟨flatT ts, false, 0⟩, some ⟨flatN ph, false, 0⟩, some ⟨flatN xs, false, 0⟩] (.bool true) := by
 obtain ⟨l1, l2⟩ := liB_le hli
 have h0 : 0 < ts.length := hR.g.1
 have h2 := two_of hR.all h0
 have hle := edL_le ts
 have h80 := hR.le
 have h40 := (cp_ok hR.cp).1
 obtain ⟨hpl, hpb⟩ := phE_0 hph
 have e1 : Ls.blX (flatP l) = some ⟨flatP l, false, 0⟩ := if_neg (fun h => by have := (flatP_nil l).1 h; omega)
 have e2 : Ls.blX (flatT ts) = some ⟨flatT ts, false, 0⟩ := if_neg (fun h => by have := (flatT_nil ts).1 h; omega)
 have e3 : Ls.blX (flatN ph) = some ⟨flatN ph, false, 0⟩ := if_neg (fun h => by have := (flatN_nil ph).1 h; omega)
 have hne : neE l ts ph = 0 := by
  unfold neE
  rw [netE_0.2 hR, hph]
  rfl
 have hrN : ∀ (m : Mem) (e0 : m.at 0 = some ⟨flatP l, false, 0⟩) (e1 : m.at 1 = some ⟨flatT ts, false, 0⟩) (e2 : m.at 2 = some ⟨flatN ph, false, 0⟩), PCalls Tryz.prog 17 [.agg #[.slice (some ⟨0, 0, none⟩) l.length INF, .slice (some ⟨1, 0, none⟩) ts.length INF], .slice (some ⟨2, 0, none⟩) ph.length INF] m (.int .i64 0) := fun m m0 m1 m2 => by
  have h := NetErr_g (m := m) (l := l) (ts := ts) (ph := ph) (v := .slice (some ⟨0, 0, none⟩) l.length INF) (w := .slice (some ⟨1, 0, none⟩) ts.length INF) (u := .slice (some ⟨2, 0, none⟩) ph.length INF) (by rw [e1]; exact m0) (by rw [e2]; exact m1) (by rw [e3]; exact m2) (.blk _ (by omega) rfl e1 rfl rfl) (.blk _ h0 rfl e2 rfl rfl) (.blk _ (by omega) rfl e3 rfl rfl) (by omega) (by omega) (by omega)
  rw [hne] at h
  exact h
 have hLi := fun (m : Mem) (A B : Blk) (a1 : m.at 0 = some A) (a2 : A.cells = flatP l) (b1 : m.at 1 = some B) (b2 : B.cells = flatT ts) (a3 : A.obj = Ob.plain) (b3 : B.obj = Ob.plain) => Light_g (m := m) (i := 0) (j := 1) (.blk A (by omega) rfl a1 a2 a3) (.blk B h0 rfl b1 b2 b3) (by omega) (by omega)
 rw [hli] at hLi
 have hC := fun (m : Mem) (A B : Blk) (a1 : m.at 0 = some A) (a2 : A.cells = flatP l) (b1 : m.at 1 = some B) (b2 : B.cells = flatT ts) (a3 : A.obj = Ob.plain) (b3 : B.obj = Ob.plain) => Copy_y (m := m) (i := 0) (j := 1) (by decide) (by omega) h0 (by omega) (by omega) a1 a2 b1 b2 a3 b3
 have hI : ∀ (m : Mem) (A : Blk) (a1 : m.at 2 = some A) (a2 : A.cells = flatN ph) (a3 : A.obj = Ob.plain), ACalls Tryz.prog 16 [.slice (some ⟨2, 0, none⟩) ph.length INF] m (.slice (some ⟨m.length, 0, none⟩) ph.length INF) (m ++ [some ⟨flatN ph, true, 1⟩]) := fun m A a1 a2 a3 => by
  have h := CopyInts_g (m := m) (i := 2) (.blk A (by omega) rfl a1 a2 a3) (by omega)
  rw [show cpC ph.length = INF from if_neg (by omega)] at h
  exact h
 obtain ⟨hxl, _⟩ := tuR_0 htu
 have hpos := edL_pos hR
 have hJ : ∀ (m : Mem) (A : Blk) (a1 : m.at 3 = some A) (a2 : A.cells = flatN xs) (a3 : A.obj = Ob.plain), ACalls Tryz.prog 16 [.slice (some ⟨3, 0, none⟩) xs.length INF] m (.slice (some ⟨m.length, 0, none⟩) xs.length INF) (m ++ [some ⟨flatN xs, true, 1⟩]) := fun m A a1 a2 a3 => by
  have h := CopyInts_g (m := m) (i := 3) (.blk A (by omega) rfl a1 a2 a3) (by omega)
  rw [show cpC xs.length = INF from if_neg (by omega)] at h
  exact h
 have hT := fun (m : Mem) (A B X : Blk) (a1 : m.at 0 = some A) (a2 : A.cells = flatP l) (b1 : m.at 1 = some B) (b2 : B.cells = flatT ts) (x1 : m.at 3 = some X) (x2 : X.cells = flatN xs) (x3 : X.obj = Ob.plain) (a3 : A.obj = Ob.plain) (b3 : B.obj = Ob.plain) (a4 : A.esz = 0) (b4 : B.esz = 0) => rTurnsErr_q (m := m) (i := 3) hR INF INF (.blk X (by omega) rfl x1 x2 x3) (by omega) (by decide) a1 a2 b1 b2 a3 b3 a4 b4
 rw [htu] at hT
 have hK := fun (m : Mem) (A B F X : Blk) (a1 : m.at 0 = some A) (a2 : A.cells = flatP l) (b1 : m.at 1 = some B) (b2 : B.cells = flatT ts) (f1 : m.at 2 = some F) (f2 : F.cells = flatN ph) (x1 : m.at 3 = some X) (x2 : X.cells = flatN xs) (a3 : A.obj = Ob.plain) (b3 : B.obj = Ob.plain) (f3 : F.obj = Ob.plain) (x3 : X.obj = Ob.plain) (a4 : A.esz = 0) (b4 : B.esz = 0) => rClosed_q (m := m) l ts hR ph xs hph htu INF INF INF INF a1 a2 b1 b2 f1 f2 rfl x1 x2 rfl a3 b3 f3 x3 a4 b4
 have hfe : fdE l ts ph xs = 21 := by rw [fdE_ne, hne, tuE_R, if_neg (fun h => h rfl), htu, if_neg (fun h => h rfl), if_pos he]
 have hF := fun (m : Mem) (bP bT bF bX : Nat) (F X : Blk) (c c2 c3 c4 : Nat) (hA : ArgN m bP bT l ts) (f1 : m.at bF = some F) (f2 : F.cells = flatN ph) (f3 : F.obj = Ob.plain) (x1 : m.at bX = some X) (x2 : X.cells = flatN xs) (x3 : X.obj = Ob.plain) => Field_e (c := c) (c2 := c2) (c3 := c3) (c4 := c4) l ts ph xs hA rfl rfl f1 f2 rfl x1 x2 rfl (by rw [hfe]; decide) (by omega) (by omega) (by omega) f3 x3
 rw [hfe] at hF
 have hge := fstN_ge (tuT ts ph xs) ts.length
 clear hfe
 generalize fstN (tuT ts ph xs) ts.length = J0 at *
 refine PCalls.en 115 Tryz.func3 rfl (ro4p _ _ _ _ rfl rfl rfl rfl) rfl (fun E => ?_)
 repeat' (first | with_reducible (first | refine Then.n ?_ | refine Then.r ?_) | ((with_reducible refine AL.on ?_); first | (refine AL.gd rfl ?_; first | (refine AL.gs1 rfl rfl (fun hc => ?_) (fun hc => ?_) <;> (try replace hc := nc hc) <;> first | (exfalso; contradiction) | refine AL.nm ?_) | (refine AL.gs0 rfl rfl (fun hc => ?_) (fun hc => ?_) <;> (try replace hc := nc hc) <;> first | (exfalso; first | contradiction | (omega); done) | refine AL.nm ?_)) | ((first | refine AL.mv ?_ | ((with_reducible refine AL.k_call ?_); refine AL.g (OQ.lenS (xt := 26) (r := (none, 1, false)) rfl kr) ?_) | refine AL.as ?_ | ((with_reducible refine AL.k_binOp ?_); first | refine AL.g (OQ.gtr rfl rfl) ?_ | refine AL.g (OQ.eql rfl rfl) ?_ | refine AL.g (OQ.geq rfl rfl) ?_ | refine AL.g (OQ.neq rfl rfl) ?_) | ((with_reducible refine AL.k_load ?_); refine AL.g (OQ.loadN (ty := 25) (n := 2) rfl kr kr rfl) ?_) | ((with_reducible refine AL.k_pick ?_); first | refine AL.pT ?_ | refine AL.pF ?_) | refine AL.et ?_ | ((with_reducible refine AL.k_unOp ?_); refine AL.g (OQ.not rfl) ?_)); refine AL.nm ?_) | ((first | refine AL.pcall (g := 12) rfl kr rfl ((by exact awake_q _)) ?_ | refine AL.pcall (g := 13) rfl kr rfl ((by exact hLi _ _ _ rfl rfl rfl rfl rfl rfl)) ?_ | refine AL.pcall (g := 14) rfl kr rfl ((by exact hF _ _ _ _ _ _ _ _ _ _ _ ⟨⟨_, rfl, rfl, .inr rfl, rfl⟩, ⟨_, rfl, rfl, rfl⟩, by decide⟩ rfl rfl rfl rfl rfl rfl)) ?_ | refine AL.pcall (g := 17) rfl kr rfl ((by exact hrN _ rfl rfl rfl)) ?_ | refine AL.pcall (g := 18) rfl kr rfl ((by exact hT _ _ _ _ rfl rfl rfl rfl rfl rfl rfl rfl rfl rfl rfl)) ?_ | refine AL.pcall (g := 19) rfl kr rfl ((by exact hK _ _ _ _ _ rfl rfl rfl rfl rfl rfl rfl rfl rfl rfl rfl rfl rfl rfl)) ?_); refine AL.nm ?_) | ((first | ((with_reducible refine AL.k_call ?_); first | refine AL.acall (g := 15) rfl kr rfl ((by exact hC _ _ _ rfl rfl rfl rfl rfl rfl)) ?_ | refine AL.acall (g := 16) rfl kr rfl ((by first | exact hI _ _ rfl rfl rfl | exact hJ _ _ rfl rfl rfl)) ?_) | refine AL.bx ?_); refine AL.nm ?_; refine AL.nM ?_) | refine AL.nil ?_) | ((with_reducible refine AW.on ?_); first | refine AW.seq ?_ | refine AW.skip ?_ | refine AW.ret ?_ | refine AW.region ?_ | (refine AW.conds rfl (fun hc => ?_) (fun hc => ?_) <;> (try replace hc := nc hc) <;> first | (exfalso; first | contradiction | (omega); done) | skip)) | ((with_reducible refine FinP.on ?_); (refine FinP.ret (.tmp wl .nil) ?_ rfl); (try simp only [pack, List.drop, List.take]); all_goals (rfl)))
theorem MeshFields_y (l : List Pn) (ts : List T3) (ph xs : List Int) (hli : liB l ts = true) (hR : NetR l ts) (hph : phE l ph = 0) (htu : tuR ts xs = 0) (hp : ph.length ≤ 45) (hq : xs.length ≤ 30) (he : fstN (tuT ts ph xs) ts.length = -1) :
  PCalls Tryz.prog 3 [.agg #[.slice (some ⟨0, 0, none⟩) l.length INF, .slice (some ⟨1, 0, none⟩) ts.length INF], .slice (some ⟨2, 0, none⟩) ph.length INF, .slice (some ⟨3, 0, none⟩) xs.length INF] [some ⟨flatP l, false, 0⟩, some ⟨flatT ts, false, 0⟩, some ⟨flatN ph, false, 0⟩, some ⟨flatN xs, false, 0⟩] (.bool true) := by
 obtain ⟨l1, l2⟩ := liB_le hli
 have h0 : 0 < ts.length := hR.g.1
 have h2 := two_of hR.all h0
 have hle := edL_le ts
 have h80 := hR.le
 have h40 := (cp_ok hR.cp).1
 obtain ⟨hpl, hpb⟩ := phE_0 hph
 have e1 : Ls.blX (flatP l) = some ⟨flatP l, false, 0⟩ := if_neg (fun h => by have := (flatP_nil l).1 h; omega)
 have e2 : Ls.blX (flatT ts) = some ⟨flatT ts, false, 0⟩ := if_neg (fun h => by have := (flatT_nil ts).1 h; omega)
 have e3 : Ls.blX (flatN ph) = some ⟨flatN ph, false, 0⟩ := if_neg (fun h => by have := (flatN_nil ph).1 h; omega)
 have hne : neE l ts ph = 0 := by
  unfold neE
  rw [netE_0.2 hR, hph]
  rfl
 have hrN : ∀ (m : Mem) (e0 : m.at 0 = some ⟨flatP l, false, 0⟩) (e1 : m.at 1 = some ⟨flatT ts, false, 0⟩) (e2 : m.at 2 = some ⟨flatN ph, false, 0⟩), PCalls Tryz.prog 17 [.agg #[.slice (some ⟨0, 0, none⟩) l.length INF, .slice (some ⟨1, 0, none⟩) ts.length INF], .slice (some ⟨2, 0, none⟩) ph.length INF] m (.int .i64 0) := fun m m0 m1 m2 => by
  have h := NetErr_g (m := m) (l := l) (ts := ts) (ph := ph) (v := .slice (some ⟨0, 0, none⟩) l.length INF) (w := .slice (some ⟨1, 0, none⟩) ts.length INF) (u := .slice (some ⟨2, 0, none⟩) ph.length INF) (by rw [e1]; exact m0) (by rw [e2]; exact m1) (by rw [e3]; exact m2) (.blk _ (by omega) rfl e1 rfl rfl) (.blk _ h0 rfl e2 rfl rfl) (.blk _ (by omega) rfl e3 rfl rfl) (by omega) (by omega) (by omega)
  rw [hne] at h
  exact h
 have hLi := fun (m : Mem) (A B : Blk) (a1 : m.at 0 = some A) (a2 : A.cells = flatP l) (b1 : m.at 1 = some B) (b2 : B.cells = flatT ts) (a3 : A.obj = Ob.plain) (b3 : B.obj = Ob.plain) => Light_g (m := m) (i := 0) (j := 1) (.blk A (by omega) rfl a1 a2 a3) (.blk B h0 rfl b1 b2 b3) (by omega) (by omega)
 rw [hli] at hLi
 have hC := fun (m : Mem) (A B : Blk) (a1 : m.at 0 = some A) (a2 : A.cells = flatP l) (b1 : m.at 1 = some B) (b2 : B.cells = flatT ts) (a3 : A.obj = Ob.plain) (b3 : B.obj = Ob.plain) => Copy_y (m := m) (i := 0) (j := 1) (by decide) (by omega) h0 (by omega) (by omega) a1 a2 b1 b2 a3 b3
 have hI : ∀ (m : Mem) (A : Blk) (a1 : m.at 2 = some A) (a2 : A.cells = flatN ph) (a3 : A.obj = Ob.plain), ACalls Tryz.prog 16 [.slice (some ⟨2, 0, none⟩) ph.length INF] m (.slice (some ⟨m.length, 0, none⟩) ph.length INF) (m ++ [some ⟨flatN ph, true, 1⟩]) := fun m A a1 a2 a3 => by
  have h := CopyInts_g (m := m) (i := 2) (.blk A (by omega) rfl a1 a2 a3) (by omega)
  rw [show cpC ph.length = INF from if_neg (by omega)] at h
  exact h
 obtain ⟨hxl, _⟩ := tuR_0 htu
 have hpos := edL_pos hR
 have hJ : ∀ (m : Mem) (A : Blk) (a1 : m.at 3 = some A) (a2 : A.cells = flatN xs) (a3 : A.obj = Ob.plain), ACalls Tryz.prog 16 [.slice (some ⟨3, 0, none⟩) xs.length INF] m (.slice (some ⟨m.length, 0, none⟩) xs.length INF) (m ++ [some ⟨flatN xs, true, 1⟩]) := fun m A a1 a2 a3 => by
  have h := CopyInts_g (m := m) (i := 3) (.blk A (by omega) rfl a1 a2 a3) (by omega)
  rw [show cpC xs.length = INF from if_neg (by omega)] at h
  exact h
 have hT := fun (m : Mem) (A B X : Blk) (a1 : m.at 0 = some A) (a2 : A.cells = flatP l) (b1 : m.at 1 = some B) (b2 : B.cells = flatT ts) (x1 : m.at 3 = some X) (x2 : X.cells = flatN xs) (x3 : X.obj = Ob.plain) (a3 : A.obj = Ob.plain) (b3 : B.obj = Ob.plain) (a4 : A.esz = 0) (b4 : B.esz = 0) => rTurnsErr_q (m := m) (i := 3) hR INF INF (.blk X (by omega) rfl x1 x2 x3) (by omega) (by decide) a1 a2 b1 b2 a3 b3 a4 b4
 rw [htu] at hT
 have hK := fun (m : Mem) (A B F X : Blk) (a1 : m.at 0 = some A) (a2 : A.cells = flatP l) (b1 : m.at 1 = some B) (b2 : B.cells = flatT ts) (f1 : m.at 2 = some F) (f2 : F.cells = flatN ph) (x1 : m.at 3 = some X) (x2 : X.cells = flatN xs) (a3 : A.obj = Ob.plain) (b3 : B.obj = Ob.plain) (f3 : F.obj = Ob.plain) (x3 : X.obj = Ob.plain) (a4 : A.esz = 0) (b4 : B.esz = 0) => rClosed_q (m := m) l ts hR ph xs hph htu INF INF INF INF a1 a2 b1 b2 f1 f2 rfl x1 x2 rfl a3 b3 f3 x3 a4 b4
 have htE : tuE ts ph xs = 0 := by rw [tuE_R, htu, if_neg (fun h => h rfl), if_neg (fun h => h he)]
 rw [he] at hK
 obtain ⟨R, hFR, hFe⟩ := field_eq hR hph htu
 have hF := fun (m : Mem) (bP bT bF bX : Nat) (F X : Blk) (hA : ArgN m bP bT l ts) (f1 : m.at bF = some F) (f2 : F.cells = flatN ph) (f3 : F.obj = Ob.plain) (x1 : m.at bX = some X) (x2 : X.cells = flatN xs) (x3 : X.obj = Ob.plain) (hd : [bP, bT, bF, bX].Nodup) => Field_y (c := INF) (c2 := INF) (c3 := INF) (c4 := INF) l ts ph xs hA rfl rfl f1 f2 rfl x1 x2 rfl hR hph htE R hFR (by omega) hd f3 x3
 rw [hFe] at hF
 have hrF := fun (m : Mem) (A B F X : Blk) (a1 : m.at 0 = some A) (a2 : A.cells = flatP l) (b1 : m.at 1 = some B) (b2 : B.cells = flatT ts) (f1 : m.at 2 = some F) (f2 : F.cells = flatN ph) (x1 : m.at 3 = some X) (x2 : X.cells = flatN xs) (a3 : A.obj = Ob.plain) (b3 : B.obj = Ob.plain) (f3 : F.obj = Ob.plain) (x3 : X.obj = Ob.plain) (a4 : A.esz = 0) (b4 : B.esz = 0) => rField_q l ts hR ph xs hph htu INF INF INF (by decide) a1 a2 b1 b2 f1 f2 rfl x1 x2 rfl a3 b3 f3 x3 a4 b4
 obtain ⟨hFl, hFw⟩ := Whole.N hR (xs := xs) hpl ph.length
 have hFb : ∀ k, k < l.length → -100000000 ≤ nt (fdN (dfL ts ph) xs (edL ts) (ph, [0]) ph.length).1 k ∧ nt (fdN (dfL ts ph) xs (edL ts) (ph, [0]) ph.length).1 k ≤ 100000000 := fun k hk => by
  have hxb := anyR_no (tuR_0 htu).2
  have hdb := dfL_bd ts ph
  have hdl := dfL_len ts ph
  have ho := fdN_ok (ds := dfL ts ph) (xs := xs) (s := (ph, [0])) (fun k hk => edL_at hR.ok k hk) (fun k hk => by
   have h1 := hdb k (by omega)
   have h2 := hxb k (by omega)
   unfold fdD
   omega) (fdp_ok (by omega) hpl hpb) ph.length
  have h1 := ho.bd k hk
  have h2 := ho.le
  omega
 have hW : ∀ k, k < l.length → (nt (fdN (dfL ts ph) xs (edL ts) (ph, [0]) ph.length).1 k - nt ph k) % 4096 = 0 ∧ wrI (nt (fdN (dfL ts ph) xs (edL ts) (ph, [0]) ph.length).1 k) = nt ph k := fun k hk => whole_wr (hFw k hk) (hpb k (by omega))
 generalize (fdN (dfL ts ph) xs (edL ts) (ph, [0]) ph.length).1 = FF at *
 have hD := fun (m : Mem) (bP bT bF : Nat) (F : Blk) (hA : ArgN m bP bT l ts) (f1 : m.at bF = some F) (f2 : F.cells = flatN ph) (f3 : F.obj = Ob.plain) (hd : [bP, bT, bF].Nodup) => Differences_y (c := INF) (c2 := INF) (c3 := INF) l ts ph hA rfl rfl f1 f2 hpl hR hph (by omega) hd f3
 have hrD := fun (m : Mem) (A B X : Blk) (a1 : m.at 0 = some A) (a2 : A.cells = flatP l) (b1 : m.at 1 = some B) (b2 : B.cells = flatT ts) (x1 : m.at 2 = some X) (x2 : X.cells = flatN ph) (a3 : A.obj = Ob.plain) (b3 : B.obj = Ob.plain) (x3 : X.obj = Ob.plain) (a4 : A.esz = 0) (b4 : B.esz = 0) => rDifferences_q l ts hR ph hph INF INF INF (by decide) a1 a2 b1 b2 x1 x2 rfl a3 b3 x3 a4 b4
 have hdl := dfL_len ts ph
 have hQ1 := fun (m : Mem) (b b' : Nat) (X Y : Blk) (x1 : m.at b = some X) (x2 : X.cells = flatN (dfL ts ph)) (y1 : m.at b' = some Y) (y2 : Y.cells = flatN (dfL ts ph)) (x3 : X.obj = Ob.plain) (y3 : Y.obj = Ob.plain) => Ints_q (n := (edL ts).length) (n' := (edL ts).length) (c := INF) (d := INF) (dfL ts ph) (dfL ts ph) (by omega) x1 x2 hdl y1 y2 hdl x3 y3
 have hQ2 := fun (m : Mem) (b b' : Nat) (X Y : Blk) (x1 : m.at b = some X) (x2 : X.cells = flatN FF) (y1 : m.at b' = some Y) (y2 : Y.cells = flatN FF) (x3 : X.obj = Ob.plain) (y3 : Y.obj = Ob.plain) => Ints_q (n := l.length) (n' := ph.length) (c := l.length) (d := INF) FF FF (by omega) x1 x2 hFl y1 y2 (by omega) x3 y3
 rw [decide_eq_true rfl] at hQ1 hQ2
 have hMo := fun (x : Int) (m : Mem) => Mod_q x 4096 (by decide) m
 have hWr := fun (x : Int) (m : Mem) => Wrap_q x m
 have hg := fun (k : Nat) (hk : k < l.length) => flatN_get FF k (by omega)
 have hgp := fun (k : Nat) (hk : k < l.length) => flatN_get ph k (by omega)
 have hft := fun (k : Nat) (hk : k < l.length) => flatN_take (xs := ph) (k := k) (by omega)
 have hfl : ∀ k, k ≤ l.length → (flatN (ph.take k)).length = k * 1 := fun k hk => by rw [flatN_len, List.length_take, Nat.min_eq_left (by omega), Nat.mul_one]
 have htl : ph.take l.length = ph := by rw [← hpl, List.take_length]
 refine PCalls.enJ 115 Tryz.func3 rfl (ro4p _ _ _ _ rfl rfl rfl rfl) rfl (fun E hE => ?_)
 repeat' (first | with_reducible (first | refine Then.n ?_ | refine Then.x ?_ | refine InB.n ?_ | refine InB.hit ?_) | ((with_reducible refine AL.on ?_); first | (refine AL.gd rfl ?_; first | (refine AL.gs1 rfl rfl (fun hc => ?_) (fun hc => ?_) <;> (try replace hc := nc hc) <;> first | (exfalso; contradiction) | refine AL.nm ?_) | (refine AL.gs0 rfl rfl (fun hc => ?_) (fun hc => ?_) <;> (try replace hc := nc hc) <;> first | (exfalso; first | contradiction | (omega); done) | refine AL.nm ?_)) | ((first | refine AL.mv ?_ | ((with_reducible refine AL.k_call ?_); refine AL.g (OQ.lenS (xt := 26) (r := (none, 1, false)) rfl kr) ?_) | refine AL.as ?_ | ((with_reducible refine AL.k_binOp ?_); first | refine AL.g (OQ.gtr rfl rfl) ?_ | refine AL.g (OQ.eql rfl rfl) ?_ | refine AL.g (OQ.geq rfl rfl) ?_ | refine AL.g (OQ.neq rfl rfl) ?_ | refine AL.g (OQ.lss rfl rfl) ?_ | refine AL.g (OQ.subi rfl rfl (by omega)) ?_ | refine AL.g (OQ.addi rfl rfl (by omega)) ?_) | ((with_reducible refine AL.k_load ?_); first | refine AL.g (OQ.loadN (ty := 25) (n := 2) rfl kr kr (by rfl)) ?_ | (refine AL.g (OQ.load1 (ty := 3) rfl kr (by (exact hg k (by omega)))) ?_)) | ((with_reducible refine AL.k_pick ?_); first | refine AL.pT ?_ | refine AL.pF ?_) | refine AL.et ?_ | ((with_reducible refine AL.k_unOp ?_); refine AL.g (OQ.not rfl) ?_)); refine AL.nm ?_) | ((first | ((with_reducible refine AL.k_call ?_); first | refine AL.pcall (g := 12) rfl kr rfl ((by exact awake_q _)) ?_ | refine AL.pcall (g := 13) rfl kr rfl ((by exact hLi _ _ _ rfl rfl rfl rfl rfl rfl)) ?_ | refine AL.pcall (g := 17) rfl kr rfl ((by exact hrN _ rfl rfl rfl)) ?_ | refine AL.pcall (g := 18) rfl kr rfl ((by exact hT _ _ _ _ rfl rfl rfl rfl rfl rfl rfl rfl rfl rfl rfl)) ?_ | refine AL.pcall (g := 19) rfl kr rfl ((by exact hK _ _ _ _ _ rfl rfl rfl rfl rfl rfl rfl rfl rfl rfl rfl rfl rfl rfl)) ?_ | refine AL.pcall (g := 20) rfl kr rfl ((by first | exact hQ1 _ _ _ _ _ rfl rfl rfl rfl rfl rfl | exact hQ2 _ _ _ _ _ rfl rfl rfl rfl rfl rfl)) ?_ | refine AL.pcall (g := 22) rfl kr rfl ((by exact hMo _ _)) ?_ | refine AL.pcall (g := 23) rfl kr rfl ((by exact hWr _ _)) ?_) | ((with_reducible refine AL.k_indexAddr ?_); refine AL.g (OQ.idxAddr (ty := 26) (z := 1) (g := false) rfl rfl kr (by omega) (by omega)) ?_)); refine AL.nm ?_) | ((first | ((with_reducible refine AL.k_call ?_); first | refine AL.acall (g := 15) rfl kr rfl ((by exact hC _ _ _ rfl rfl rfl rfl rfl rfl)) ?_ | refine AL.acall (g := 16) rfl kr rfl ((by first | exact hI _ _ rfl rfl rfl | exact hJ _ _ rfl rfl rfl)) ?_ | refine AL.acall (g := 14) rfl kr rfl ((by exact hF _ _ _ _ _ _ _ ⟨⟨_, rfl, rfl, .inr rfl, rfl⟩, ⟨_, rfl, rfl, rfl⟩, by decide⟩ rfl rfl rfl rfl rfl rfl (by decide))) ?_ | refine AL.acall (g := 21) rfl kr rfl ((by exact hrF _ _ _ _ _ rfl rfl rfl rfl rfl rfl rfl rfl rfl rfl rfl rfl rfl rfl)) ?_ | refine AL.w rfl (by first | exact OW.appendNil (e := 3) (z := 1) (zs := [.int .i64 0]) (by' := 8) rfl rfl kr kr kr rfl kr (by decide) rfl (by decide) (by decide) | exact OW.appendL (e := 3) (z := 1) (zs := [.int .i64 0]) (by' := 8) rfl rfl kr kr kr rfl kr (by decide) rfl rfl rfl (by decide) (by exact hfl k (by omega)) rfl rfl (by omega) (by omega)) ?_ | refine AL.acall (g := 24) rfl kr rfl ((by exact hD _ _ _ _ _ ⟨⟨_, rfl, rfl, .inr rfl, rfl⟩, ⟨_, rfl, rfl, rfl⟩, by decide⟩ rfl rfl rfl (by decide))) ?_ | refine AL.acall (g := 25) rfl kr rfl ((by exact hrD _ _ _ _ rfl rfl rfl rfl rfl rfl rfl rfl rfl rfl rfl)) ?_) | refine AL.bx ?_ | ((with_reducible refine AL.k_buildSlice ?_); refine AL.w rfl (OW.buildSl (ty := 26) (zs := [.int .i64 0]) (n := 1) (g := false) kr kr rfl rfl rfl (by decide) (by decide) rfl rfl) ?_)); refine AL.nm ?_; refine AL.nM ?_) | refine AL.nil ?_) | ((with_reducible refine AW.on ?_); first | refine AW.seq ?_ | refine AW.skip ?_ | refine AW.exit ?_ | refine AW.ret ?_ | ((refine AW.block (id := 0) ?_); (refine AW.fk [1, 3, 7, 10, 11] ?_); (refine AW.loop (fun n' t' m => ∃ k : Nat, n' = l.length - k ∧ k ≤ l.length ∧ ((k = 0 ∧ t' = [jk, .slice (some ⟨2, 0, none⟩) ph.length INF, jk, .pointer (some ⟨4, 0, none⟩), jk, jk, jk, .slice (some ⟨9, 0, none⟩) l.length l.length, jk, jk, .slice none 0 0, .int .i64 (k), jk, jk, jk, jk, jk, jk, jk, jk, jk, jk, jk, jk, jk, jk, jk, jk, jk, jk, jk, jk, jk, jk, jk, jk, jk, jk, jk, jk, jk, jk, jk, jk, jk, jk, jk, jk, jk, jk, jk, jk, jk, jk, jk, jk, jk, jk, jk, jk, jk, jk, jk, jk, jk, jk, jk, jk, jk, jk, jk, jk, jk, jk, jk, jk, jk, jk, jk, jk, jk, jk, jk, jk, jk, jk, jk, jk, jk, jk, jk, jk, jk, jk, jk, jk, jk, jk, jk, jk, jk, jk, jk, jk, jk, jk, jk, jk, jk, jk, jk, jk, jk, jk, jk, jk, jk, jk] ∧ m = [some ⟨flatP l, false, 0⟩, some ⟨flatT ts, false, 0⟩, some ⟨flatN ph, false, 0⟩, some ⟨flatN xs, false, 0⟩, some ⟨[.slice (some ⟨0, 0, none⟩) l.length INF, .slice (some ⟨1, 0, none⟩) ts.length INF], true, 0⟩, some ⟨flatP l, true, 2⟩, some ⟨flatT ts, true, 3⟩, some ⟨flatN ph, true, 1⟩, some ⟨flatN xs, true, 1⟩, some ⟨flatN FF, true, 1⟩, some ⟨flatN FF, true, 1⟩]) ∨ (0 < k ∧ t' = [jk, .slice (some ⟨2, 0, none⟩) ph.length INF, jk, .pointer (some ⟨4, 0, none⟩), jk, jk, jk, .slice (some ⟨9, 0, none⟩) l.length l.length, jk, jk, .slice (some ⟨11, 0, none⟩) (k) INF, .int .i64 (k), jk, jk, jk, jk, jk, jk, jk, jk, jk, jk, jk, jk, jk, jk, jk, jk, jk, jk, jk, jk, jk, jk, jk, jk, jk, jk, jk, jk, jk, jk, jk, jk, jk, jk, jk, jk, jk, jk, jk, jk, jk, jk, jk, jk, jk, jk, jk, jk, jk, jk, jk, jk, jk, jk, jk, jk, jk, jk, jk, jk, jk, jk, jk, jk, jk, jk, jk, jk, jk, jk, jk, jk, jk, jk, jk, jk, jk, jk, jk, jk, jk, jk, jk, jk, jk, jk, jk, jk, jk, jk, jk, jk, jk, jk, jk, jk, jk, jk, jk, jk, jk, jk, jk, jk, jk, jk] ∧ m = [some ⟨flatP l, false, 0⟩, some ⟨flatT ts, false, 0⟩, some ⟨flatN ph, false, 0⟩, some ⟨flatN xs, false, 0⟩, some ⟨[.slice (some ⟨0, 0, none⟩) l.length INF, .slice (some ⟨1, 0, none⟩) ts.length INF], true, 0⟩, some ⟨flatP l, true, 2⟩, some ⟨flatT ts, true, 3⟩, some ⟨flatN ph, true, 1⟩, some ⟨flatN xs, true, 1⟩, some ⟨flatN FF, true, 1⟩, some ⟨flatN FF, true, 1⟩, some ⟨flatN (ph.take k), true, 1⟩]))) (l.length) (by exact ⟨0, rfl, Nat.zero_le _, .inl ⟨rfl, rfl, rfl⟩⟩) ?_); (rintro n' t' m ⟨k, rfl, hk, (⟨hk0, rfl, rfl⟩ | ⟨hk1, rfl, rfl⟩)⟩)) | refine AW.block ?_ | (refine AW.drawF (id := 19) 8 #[0, 0, 3, 7, 0, 0, 48, 112, 255, 511, 1023] kr kr ?_; (conv => (arg 8; simp only [List.take_succ_cons, List.take_zero])); ((have q1 := hFb k (by omega); have q2 := hpb k (by omega); have q3 := hW k (by omega)))) | (refine AW.region (id := 22) ?_; ((obtain rfl : k = l.length := (by omega); rw [htl]))) | refine AW.region ?_ | (refine AW.conds rfl (fun hc => ?_) (fun hc => ?_) <;> (try replace hc := nc hc) <;> first | (exfalso; first | contradiction | (omega); done) | skip)) | ((with_reducible refine AF.on ?_); first | ((first | ((with_reducible refine AF.k_move ?_); (refine AF.q 0 (SW.q (OQ.move wl) rfl) ?_)) | ((with_reducible refine AF.k_load ?_); (refine AF.ql rfl (SW.q (OQ.load1 (ty := 3) rfl kr (by (first | exact hg k (by omega) | exact hgp k (by omega)))) rfl) ?_)) | ((with_reducible refine AF.k_indexAddr ?_); refine AF.q 0 (SW.q (OQ.idxAddr (ty := 26) (z := 1) (g := false) rfl rfl kr (by omega) (by omega)) rfl) ?_)); refine AF.nm ?_) | refine AF.nl ?_) | ((with_reducible refine ex_on ?_); first | (obtain rfl := hk0; have hf0 := hft 0 (by omega); have hv := (hW 0 (by omega)).2; rw [hv]; refine ⟨l.length - 1, [jk, .slice (some ⟨2, 0, none⟩) ph.length INF, jk, .pointer (some ⟨4, 0, none⟩), jk, jk, jk, .slice (some ⟨9, 0, none⟩) l.length l.length, jk, jk, .slice (some ⟨11, 0, none⟩) (1) INF, .int .i64 (((0 + 1 : Nat) : Int)), jk, jk, jk, jk, jk, jk, jk, jk, jk, jk, jk, jk, jk, jk, jk, jk, jk, jk, jk, jk, jk, jk, jk, jk, jk, jk, jk, jk, jk, jk, jk, jk, jk, jk, jk, jk, jk, jk, jk, jk, jk, jk, jk, jk, jk, jk, jk, jk, jk, jk, jk, jk, jk, jk, jk, jk, jk, jk, jk, jk, jk, jk, jk, jk, jk, jk, jk, jk, jk, jk, jk, jk, jk, jk, jk, jk, jk, jk, jk, jk, jk, jk, jk, jk, jk, jk, jk, jk, jk, jk, jk, jk, jk, jk, jk, jk, jk, jk, jk, jk, jk, jk, jk, jk, jk, jk], [some ⟨flatP l, false, 0⟩, some ⟨flatT ts, false, 0⟩, some ⟨flatN ph, false, 0⟩, some ⟨flatN xs, false, 0⟩, some ⟨[.slice (some ⟨0, 0, none⟩) l.length INF, .slice (some ⟨1, 0, none⟩) ts.length INF], true, 0⟩, some ⟨flatP l, true, 2⟩, some ⟨flatT ts, true, 3⟩, some ⟨flatN ph, true, 1⟩, some ⟨flatN xs, true, 1⟩, some ⟨flatN FF, true, 1⟩, some ⟨flatN FF, true, 1⟩, some ⟨[.int .i64 (nt ph 0)], true, 1⟩], by omega, ?_, 0 + 1, rfl, by omega, .inr ⟨by omega, rfl, by rw [← hf0]; rfl⟩⟩; exact Wk.keep 11 [12] (by rw [hE]; exact Nat.le_of_ble_eq_true rfl) rfl rfl (by repeat (first | exact RenT.nil | refine RenT.jk ?_ | refine RenT.val (by rfl) (by rfl) ?_)) ⟨kl rfl (flatP_scal l), kl rfl (flatT_scal ts), kl rfl (flatN_scal ph), kl rfl (flatN_scal xs), ki rfl, kl rfl (flatP_scal l), kl rfl (flatT_scal ts), kl rfl (flatN_scal ph), kl rfl (flatN_scal xs), kl rfl (flatN_scal FF), kl rfl (flatN_scal FF), kl rfl rfl, trivial⟩) | (have hf0 := hft k (by omega); have hv := (hW k (by omega)).2; rw [hv]; refine ⟨l.length - (k + 1), [jk, .slice (some ⟨2, 0, none⟩) ph.length INF, jk, .pointer (some ⟨4, 0, none⟩), jk, jk, jk, .slice (some ⟨9, 0, none⟩) l.length l.length, jk, jk, .slice (some ⟨11, 0, none⟩) (k + 1) INF, .int .i64 (((k + 1 : Nat) : Int)), jk, jk, jk, jk, jk, jk, jk, jk, jk, jk, jk, jk, jk, jk, jk, jk, jk, jk, jk, jk, jk, jk, jk, jk, jk, jk, jk, jk, jk, jk, jk, jk, jk, jk, jk, jk, jk, jk, jk, jk, jk, jk, jk, jk, jk, jk, jk, jk, jk, jk, jk, jk, jk, jk, jk, jk, jk, jk, jk, jk, jk, jk, jk, jk, jk, jk, jk, jk, jk, jk, jk, jk, jk, jk, jk, jk, jk, jk, jk, jk, jk, jk, jk, jk, jk, jk, jk, jk, jk, jk, jk, jk, jk, jk, jk, jk, jk, jk, jk, jk, jk, jk, jk, jk, jk, jk], [some ⟨flatP l, false, 0⟩, some ⟨flatT ts, false, 0⟩, some ⟨flatN ph, false, 0⟩, some ⟨flatN xs, false, 0⟩, some ⟨[.slice (some ⟨0, 0, none⟩) l.length INF, .slice (some ⟨1, 0, none⟩) ts.length INF], true, 0⟩, some ⟨flatP l, true, 2⟩, some ⟨flatT ts, true, 3⟩, some ⟨flatN ph, true, 1⟩, some ⟨flatN xs, true, 1⟩, some ⟨flatN FF, true, 1⟩, some ⟨flatN FF, true, 1⟩, some ⟨flatN (ph.take k) ++ [.int .i64 (nt ph k)], true, 1⟩], by omega, ?_, k + 1, rfl, by omega, .inr ⟨by omega, rfl, by rw [← hf0]⟩⟩; exact Wk.keep 11 [13] (by rw [hE]; exact Nat.le_of_ble_eq_true rfl) rfl rfl (by repeat (first | exact RenT.nil | refine RenT.jk ?_ | refine RenT.val (by rfl) (by rfl) ?_)) ⟨kl rfl (flatP_scal l), kl rfl (flatT_scal ts), kl rfl (flatN_scal ph), kl rfl (flatN_scal xs), ki rfl, kl rfl (flatP_scal l), kl rfl (flatT_scal ts), kl rfl (flatN_scal ph), kl rfl (flatN_scal xs), kl rfl (flatN_scal FF), kl rfl (flatN_scal FF), ⟨_, rfl, rfl, rfl, .inl ⟨rfl, by rw [List.all_append, flatN_scal]; rfl⟩⟩, trivial⟩)) | ((with_reducible refine FinJ.on ?_); exact FinJ.ret (.tmp wl .nil) (jle_flat rfl)))
theorem MeshFields_q (v w u x : Value) (l : List Pn) (ts : List T3) (ph xs : List Int) (hv : SlV [Ls.blX (flatP l), Ls.blX (flatT ts)] 0 v (flatP l) l.length) (hw : SlV [Ls.blX (flatP l), Ls.blX (flatT ts)] 1 w (flatT ts) ts.length) (hu : SlV [Ls.blX (flatP l), Ls.blX (flatT ts), Ls.blX (flatN ph)] 2 u (flatN ph) ph.length) (hx : SlV [Ls.blX (flatP l), Ls.blX (flatT ts), Ls.blX (flatN ph), Ls.blX (flatN xs)] 3 x (flatN xs) xs.length) (hl : (l.length : Int) ≤ 9223372036854775807) (ht : (ts.length : Int) ≤ 9223372036854775807) :
  PCalls Tryz.prog 3 [.agg #[v, w], u, x] [Ls.blX (flatP l), Ls.blX (flatT ts), Ls.blX (flatN ph), Ls.blX (flatN xs)] (.bool true) := by
 have hr := ro_bl4 (flatP l) (flatT ts) (flatN ph) (flatN xs)
 cases hli : liB l ts with
 | false => exact MeshFields_f v w u x l ts _ _ _ _ hr hv hw hl ht hli
 | true =>
  obtain ⟨xa, c, rfl⟩ := hu.sl
  obtain ⟨xb, d, rfl⟩ := hx.sl
  by_cases hp : 45 < ph.length ∨ 30 < xs.length
  ·exact MeshFields_g v w xa xb c d l ts ph xs _ _ _ _ hr hv hw hl ht hli hp
  ·by_cases he : neE l ts ph = 0
   ·have he1 : netE l ts = 0 := Classical.not_not.1 fun h => by
     unfold neE at he
     rw [if_pos h] at he
     exact h he
    have hph : phE l ph = 0 := by
     unfold neE at he
     rw [if_neg (fun h => h he1)] at he
     exact he
    have hR := netE_0.1 he1
    have h0 : 0 < ts.length := hR.g.1
    have h2 := two_of hR.all h0
    obtain ⟨hpl, _⟩ := phE_0 hph
    have e1 : Ls.blX (flatP l) = some ⟨flatP l, false, 0⟩ := if_neg (fun h => by have := (flatP_nil l).1 h; omega)
    have e2 : Ls.blX (flatT ts) = some ⟨flatT ts, false, 0⟩ := if_neg (fun h => by have := (flatT_nil ts).1 h; omega)
    have e3 : Ls.blX (flatN ph) = some ⟨flatN ph, false, 0⟩ := if_neg (fun h => by have := (flatN_nil ph).1 h; omega)
    rw [(hv.pos (by omega)).1, (hw.pos h0).1, (hu.pos (by omega)).1]
    rw [e1, e2, e3] at hr hx ⊢
    by_cases htu : tuR ts xs = 0
    ·obtain ⟨hxl, _⟩ := tuR_0 htu
     have hpos := edL_pos hR
     have e4 : Ls.blX (flatN xs) = some ⟨flatN xs, false, 0⟩ := if_neg (fun h => by have := (flatN_nil xs).1 h; omega)
     rw [(hx.pos (by omega)).1, e4]
     by_cases hj : fstN (tuT ts ph xs) ts.length = -1
     ·exact MeshFields_y l ts ph xs hli hR hph htu (by omega) (by omega) hj
     ·exact MeshFields_c l ts ph xs hli hR hph htu (by omega) (by omega) hj
    ·exact MeshFields_t xb d l ts ph xs _ hr hx hli hR hph (by omega) (by omega) htu
   ·exact MeshFields_e v w xa xb c d l ts ph xs hv hw hu hx hl ht (by omega) (by omega) hli he
end Go.Proofs.YtmohcmghbfhdlaaGreat
end
section
namespace Go.Proofs.YtmohcmghbfhdlaaGreat.MeshFields
open Go.ChangeShapes Go.WideShapes Go.ChangeAt Go Go.RowKit Go.Ab Go.Ls Go.Me Go.Proofs.YtmohcmghbfhdlaaGreat
set_option maxRecDepth 100000
theorem walk {W : World} (a : Option Addr) (l : List Pn) (cap : Nat) (b : Option Addr) (ts : List T3) (cat : Nat) (hcap : l.length ≤ cap) (hcm : cap ≤ maxLen) (hS : SlX W a (flatP l)) (hz : a = none → cap = 0) (hcat : ts.length ≤ cat) (hcmt : cat ≤ maxLen) (hT : SlX W b (flatT ts)) (hzt : b = none → cat = 0)
  (d : Option Addr) (ph : List Int) (cad : Nat) (hcad : ph.length ≤ cad) (hcmd : cad ≤ maxLen) (hN : SlX W d (flatN ph)) (hzd : d = none → cad = 0) (e : Option Addr) (xs : List Int) (cae : Nat) (hcae : xs.length ≤ cae) (hcme : cae ≤ maxLen) (hX : SlX W e (flatN xs)) (hze : e = none → cae = 0) :
  Calls Tryz.prog 3 #[.agg #[.slice a l.length cap, .slice b ts.length cat], .slice d ph.length cad, .slice e xs.length cae] W fun e w' => e = .returned (.bool true) ∧ Below W.heap.size W w' := by
 simp only [maxLen] at hcm hcmt
 refine glueL (args := [argN 0 a b l ts, vaX 2 ph.length d.isNone, vaX 3 xs.length e.isNone]) [(a, flatP l), (b, flatT ts), (d, flatN ph), (e, flatN xs)] (fun x hx => ?_) ?_ (MeshFields_q _ _ _ _ l ts ph xs (.arg rfl (flatP_nil l)) (.arg rfl (flatT_nil ts)) (.arg rfl (flatN_nil ph)) (.arg rfl (flatN_nil xs)) (by omega) (by omega))
 ·simp only [List.mem_cons, List.not_mem_nil, or_false] at hx
  rcases hx with rfl | rfl | rfl | rfl
  ·exact ⟨flatP_scal l, hS⟩
  ·exact ⟨flatT_scal ts, hT⟩
  ·exact ⟨flatN_scal ph, hN⟩
  ·exact ⟨flatN_scal xs, hX⟩
 ·refine .tuple rfl fun i h h' => ?_
  match i, h with
  | 0, _ => exact argN_rel hS hT hcap hcat hz hzt rfl rfl
  | 1, _ => exact vaX_rel hN (flatN_nil ph) hcad hzd rfl
  | 2, _ => exact vaX_rel hX (flatN_nil xs) hcae hze rfl
  | i + 3, h => exact absurd h (by simp)
set_option maxRecDepth 100000 in
theorem lifted (os : Os) (started : os.Started) (H : Type) (enc : TypeId × Value → H) :
  ReturnsInHanded {} Tryz.checked os 3 .any (Rows.meshFieldsSpec.pre6 enc Tryz.prog Tryz.f3 Rows.meshFieldsRow.domain false) (Rows.meshFieldsSpec.post enc Tryz.prog Tryz.f3 false true false false) := by
 refine returnsInHanded_of_change (C := Tryz.checked) own started (by kernel_rfl) Tryz.func3
  (ChangeSpec.witness6 (enc := enc) (C := Tryz.checked) false ⟨#[], #[.agg #[.slice none 0 0, .slice none 0 0], .slice none 0 0, .slice none 0 0], []⟩ 8 (by kernel_rfl) (by kernel_rfl) (by kernel_rfl) (by kernel_rfl)) ?_
 intro W base args ds gs before hval0 hW hcnd _
 have hval : ∀ (j : Nat) t v, Tryz.f3.params[j]? = some t → args[j]? = some v → Value.okWide Tryz.prog W .any base t v := hval0
 have hW' := hW
 obtain ⟨p, q, hA0, hV, rfl, hfz, hnd⟩ := hW
 have hA : DataW.TrodAll enc Tryz.prog W 0 (fun _ => true) true Tryz.f3.params.toList args.toList ds p := hA0
 rw [Tryz.params3] at hA hval
 obtain ⟨v0, vs0, d0, ds0, p0, q0, hargs, rfl, rfl, h0, r0⟩ := trodAll_cons hA
 obtain ⟨v1, vs1, d1, ds1, p1, q1, rfl, rfl, rfl, h1, r1⟩ := trodAll_cons r0
 obtain ⟨v2, vs2, d2, ds2, p2, q2, rfl, rfl, rfl, h2, r2⟩ := trodAll_cons r1
 obtain ⟨rfl, rfl, rfl⟩ := trodAll_nil r2
 obtain rfl : args = #[v0, v1, v2] := by cases args; simp_all
 obtain ⟨rfl, rfl⟩ := trodVars_none hV
 clear hA0 hval0
 have hlt := hW'.lt
 have g0 := h0
 have g1 := h1
 have g2 := h2
 obtain ⟨a0, l0, cap0, b0, t0, cat0, rfl, hcap0, hcm0, hS0, hz0, hcat0, hcmt0, hT0, hzt0⟩ := open_MN (hval 0 25 v0 rfl rfl) h0
 obtain ⟨a1, l1, cap1, rfl, hcap1, hcm1, hS1, hz1⟩ := open_IS (hval 1 26 v1 rfl rfl) h1
 obtain ⟨a2, l2, cap2, rfl, hcap2, hcm2, hS2, hz2⟩ := open_IS (hval 2 26 v2 rfl rfl) h2
 simp only [List.append_nil] at hW' hlt ⊢
 refine (walk a0 l0 cap0 b0 t0 cat0 hcap0 hcm0 hS0 hz0 hcat0 hcmt0 hT0 hzt0 a1 l1 cap1 hcap1 hcm1 hS1 hz1 a2 l2 cap2 hcap2 hcm2 hS2 hz2).mono fun e W' ⟨he, hb⟩ => ?_
 subst he
 have stay : ∀ (t : TypeId) v d ps (sp : Nat → Bool), Tryz.prog.readableRec t = true → t < Tryz.prog.types.size → DataW.Trod enc Tryz.prog W 0 (fun _ => true) true t v d ps → (∀ x ∈ ps, x.block < W.heap.size) → (∀ x ∈ ps, sp x.block = true) → DataW.Trod enc Tryz.prog W' 0 sp true t v d ps :=
  fun t v d ps sp hr ht h hx hs => Go.WideElems.Trod_stays laid hr ht h (fun x hxp => hb.same (hx x hxp)) hs
 exact ⟨_, rfl, post_below (pa := p0 ++ (p1 ++ (p2 ++ []))) (pv := []) hW' (fun _ _ _ => trodAll_mk1 (shut_bool Tryz.underlying4 true)) (fun sp hs => (trodAll_cons_mk (stay 25 _ _ _ sp (by kernel_rfl) (of_decide_eq_true (by kernel_rfl)) g0 (fun x hx => hlt x (by simp [hx])) (fun x hx => hs x (by simp [hx]))) (trodAll_cons_mk (stay 26 _ _ _ sp (by kernel_rfl) (of_decide_eq_true (by kernel_rfl)) g1 (fun x hx => hlt x (by simp [hx])) (fun x hx => hs x (by simp [hx]))) (trodAll_cons_mk (stay 26 _ _ _ sp (by kernel_rfl) (of_decide_eq_true (by kernel_rfl)) g2 (fun x hx => hlt x (by simp [hx])) (fun x hx => hs x (by simp [hx]))) (trodAll_mk0))))) (fun _ _ => rfl) (by simp)
  hb (ok_one (by kernel_rfl) rfl (okWide_bool_mk Tryz.underlying4 true))⟩
theorem over : Rows.meshFieldsRow.holds Tryz.pinned (OpenSpec.ofChange Rows.meshFieldsSpec) :=
 OpenClaim.holds_of_wide 3 Tryz.f3 rfl rfl rfl rfl rfl rfl rfl ⟨rfl, rfl, rfl, rfl, rfl⟩ rfl rfl rfl rfl rfl (by kernel_rfl) Tryz.func3 (by kernel_rfl)
  (of_decide_eq_true (by kernel_rfl)) (by unfold Func.isWrapper; first | (rw [if_pos (by decide +kernel)]; kernel_rfl) | (rw [if_neg (by decide +kernel)]; exact ⟨rfl, rfl⟩))
  (fun os started H enc _ => lifted os started H enc)
theorem proved : Rows.MeshFieldsSaid := over
#print axioms proved
end Go.Proofs.YtmohcmghbfhdlaaGreat.MeshFields
end
