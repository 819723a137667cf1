/- Chapter 6: the reference's area of the hull. -/
import Derived.Test.YtmohcmghbfhdlaaGreatQd
import Derived.Test.YtmohcmghbfhdlaaGreatQu
section
set_option linter.unusedSimpArgs false
set_option linter.unusedVariables false
section
namespace Go.Me
open Go.Ab Go.Proofs.YtmohcmghbfhdlaaGreat
theorem haK_bd {l : List Pn} {H : List Nat} (hok : ∀ k, k < l.length → (pt l k).Ok) (hH : ∀ k, k < H.length → ot H k < l.length) : ∀ k, k + 2 ≤ H.length → -(800000000 * (k : Int)) ≤ haK l H k ∧ haK l H k ≤ 800000000 * (k : Int)
 | 0, _ => by unfold haK; omega
 | k + 1, h => by
  have h1 := haK_bd hok hH k (by omega)
  have h2 := cr_bd (hok _ (hH 0 (by omega))) (hok _ (hH (k + 1) (by omega))) (hok _ (hH (k + 2) (by omega)))
  show -(800000000 * ((k + 1 : Nat) : Int)) ≤ haK l H k + cr _ _ _ ∧ haK l H k + cr _ _ _ ≤ _
  unfold cr
  omega
end Go.Me
namespace Go.Proofs.YtmohcmghbfhdlaaGreat
open Go Go.RowKit Go.Ab Go.Me
set_option maxRecDepth 100000
set_option maxHeartbeats 4000000
attribute [local irreducible] OQ OW AL AW AF SW
theorem HullArea_0 (l : List Pn) (c z : Nat) (h0 : cpB l = 0) : PCalls Tryz.prog 77 [.slice (some ⟨0, 0, none⟩) l.length c] [some ⟨flatP l, false, z⟩] (.int .i64 (arS l (hl l) (hl l).length)) := by
 obtain ⟨h40, hok, hap⟩ := cp_ok h0
 have hle := hl_le h0
 cases hf : flK l (l.length - 2) with
 | true =>
  rw [arS_two (hl_flat h0 hf)]
  have hr := fun (m : Mem) (blk : Blk) (h1 : m.at 0 = some blk) (h2 : blk.cells = flatP l) (h3 : blk.obj = Ob.plain) => rHull_fq (c := c) l hok hf h1 h2 rfl (by omega) h3
  refine PCalls.en 38 Tryz.func77 rfl (ro1p _ rfl) rfl (fun E => ?_)
  repeat' (first | with_reducible (first | refine Then.n ?_ | refine Then.x ?_ | refine InB.hit ?_) | ((with_reducible refine AL.on ?_); first | ((first | refine AL.mv ?_ | refine AL.as ?_ | ((with_reducible refine AL.k_binOp ?_); refine AL.g (OQ.lss rfl rfl) ?_) | ((with_reducible refine AL.k_call ?_); refine AL.g (OQ.lenS (xt := 26) (r := (none, 1, false)) rfl kr) ?_)); refine AL.nm ?_) | ((refine AL.pcall (g := 60) rfl kr rfl ((by exact hr _ _ rfl rfl rfl)) ?_); refine AL.nm ?_) | refine AL.nil ?_) | ((with_reducible refine AW.on ?_); first | refine AW.seq ?_ | refine AW.exit ?_ | refine AW.ret ?_ | (refine AW.block (id := 0) ?_; refine AW.unroll 1 ?_) | refine AW.region ?_ | (refine AW.conds rfl (fun hc => ?_) (fun hc => ?_) <;> (try replace hc := nc hc) <;> first | (exfalso; contradiction) | skip)) | with_reducible refine AR.s ?_ | ((with_reducible refine FinP.on ?_); (refine FinP.ret (.tmp wl .nil) ?_ rfl); (try simp only [pack, List.drop, List.take]); all_goals (rfl)))
 | false =>
  have hR := hl_ring h0 hf
  rw [← haK_all hR.len]
  have hr := fun (m : Mem) (blk : Blk) (h1 : m.at 0 = some blk) (h2 : blk.cells = flatP l) (h3 : blk.obj = Ob.plain) => rHull_y (c := c) l h0 hf h1 h2 rfl h3
  have hbd := haK_bd (l := l) (H := hl l) hok hR.bd
  have hl3 := hR.len
  have hin := hR.bd
  have hA := fun (i j k : Nat) (h1 : i < (hl l).length) (h2 : j < (hl l).length) (h3 : k < (hl l).length) (m : Mem) => Area_q (hok _ (hin i h1)) (hok _ (hin j h2)) (hok _ (hin k h3)) m
  have hz : haK l (hl l) 0 = 0 := rfl
  have hs : ∀ k, haK l (hl l) k + cr (pt l (ot (hl l) 0)) (pt l (ot (hl l) (k + 1))) (pt l (ot (hl l) (k + 2))) = haK l (hl l) (k + 1) := fun k => rfl
  have hcb : ∀ k, k + 3 ≤ (hl l).length → -800000000 ≤ cr (pt l (ot (hl l) 0)) (pt l (ot (hl l) (k + 1))) (pt l (ot (hl l) (k + 2))) ∧ cr (pt l (ot (hl l) 0)) (pt l (ot (hl l) (k + 1))) (pt l (ot (hl l) (k + 2))) ≤ 800000000 := fun k hk => by
   have := cr_bd (hok _ (hin 0 (by omega))) (hok _ (hin (k + 1) (by omega))) (hok _ (hin (k + 2) (by omega)))
   unfold cr
   omega
  have hgo := flatO_get (hl l)
  have hg1 : ∀ k : Nat, k + 1 < (hl l).length → (flatO (hl l))[((k : Int) + 2 - 1).toNat]? = some (.int .i64 (ot (hl l) (k + 1))) := fun k hk => by
   rw [show ((k : Int) + 2 - 1).toNat = k + 1 by omega]
   exact flatO_get _ _ hk
  have hg2 : ∀ k : Nat, k + 2 < (hl l).length → (flatO (hl l))[((k : Int) + 2).toNat]? = some (.int .i64 (ot (hl l) (k + 2))) := fun k hk => by
   rw [show ((k : Int) + 2).toNat = k + 2 by omega]
   exact flatO_get _ _ hk
  have hld := fun (k : Nat) (hk : k < l.length) (r : Mem) => flatP_ld (m := some ⟨flatP l, false, z⟩ :: r) (b := 0) (l := l) rfl rfl k hk
  generalize haK l (hl l) = HK at *
  generalize hl l = H at *
  refine PCalls.en 38 Tryz.func77 rfl (ro1p _ rfl) rfl (fun E => ?_)
  repeat' (first | with_reducible (first | refine Then.n ?_ | refine Then.x ?_ | refine InB.n ?_ | refine InB.hit ?_) | ((with_reducible refine AL.on ?_); first | ((first | refine AL.mv ?_ | refine AL.as ?_ | ((with_reducible refine AL.k_binOp ?_); first | refine AL.g (OQ.lss rfl rfl) ?_ | refine AL.g (OQ.addi rfl rfl (by omega)) ?_) | ((with_reducible refine AL.k_call ?_); refine AL.g (OQ.lenS (xt := 26) (r := (none, 1, false)) rfl kr) ?_)); refine AL.nm ?_) | ((refine AL.acall (g := 60) rfl kr rfl ((by exact hr _ _ rfl rfl rfl)) ?_); refine AL.nm ?_; refine AL.nM ?_) | refine AL.nil ?_) | ((with_reducible refine AW.on ?_); first | refine AW.seq ?_ | refine AW.skip ?_ | refine AW.exit ?_ | refine AW.ret ?_ | ((refine AW.block (id := 0) ?_); (refine AW.fk [0, 3, 4, 5] ?_); (refine AW.loop (fun n' t' m => ∃ k : Nat, n' = H.length - 2 - k ∧ k + 2 ≤ H.length ∧ t' = (mtz 39 0 [(0, .slice (some ⟨0, 0, none⟩) l.length c), (3, .slice (some ⟨1, 0, none⟩) (H.length) INF), (4, .int .i64 (HK k)), (5, .int .i64 (k + 2))]) ∧ m = [some ⟨flatP l, false, z⟩, some ⟨flatO H, true, 1⟩]) (H.length - 2) (by exact ⟨0, rfl, by omega, by rw [hz]; rfl, rfl⟩) ?_); (rintro n' t' m ⟨k, rfl, hk, rfl, rfl⟩); (refine AW.nT ?_)) | refine AW.block ?_ | (refine AW.drawF (id := 6) 23 #[0, 0, 0, 4, 12, 30, 62, 0, 0, 0, 512, 1792, 3840, 8064, 16256, 0, 0, 0, 196608, 458752, 1015808, 2064384, 4194302, 8388607, 16777215] kr kr ?_; (conv => (arg 8; simp only [List.take_succ_cons, List.take_zero])); ((have q1 := hcb k (by omega); have q2 := hbd k (by omega)))) | refine AW.region ?_ | (refine AW.conds rfl (fun hc => ?_) (fun hc => ?_) <;> (try replace hc := nc hc) <;> skip)) | ((with_reducible refine AF.on ?_); first | ((first | ((with_reducible refine AF.k_move ?_); (refine AF.q 0 (SW.q (OQ.move wl) rfl) ?_)) | ((with_reducible refine AF.k_indexAddr ?_); first | (refine AF.q 0 (SW.q (OQ.idxAddr (ty := 26) (z := 1) (g := false) rfl rfl kr (by omega) (by omega)) rfl) ?_) | (refine AF.q 0 (SW.q (OQ.idxAddr (ty := 22) (z := 2) (g := true) rfl rfl kr (by omega) (by first | (have := hin 0 (by omega); omega) | (have := hin (k + 1) (by omega); omega) | (have := hin (k + 2) (by omega); omega))) rfl) ?_)) | ((with_reducible refine AF.k_load ?_); first | (refine AF.ql rfl (SW.q (OQ.load1 (ty := 3) rfl kr (by first | (first | exact hgo 0 (by omega) | exact hg1 k (by omega) | exact hg2 k (by omega)) | (conv => lhs; whnf))) rfl) ?_) | refine AF.ql rfl (SW.q (OQ.loadN (ty := 65) (n := 2) rfl kr kr (by (exact hld _ (by first | exact hin 0 (by omega) | exact hin (k + 1) (by omega) | exact hin (k + 2) (by omega)) _))) rfl) ?_) | ((with_reducible refine AF.k_binOp ?_); refine AF.q 0 (SW.q (OQ.subi rfl rfl (by omega)) rfl) ?_) | ((with_reducible refine AF.k_call ?_); refine AF.q 2 (SW.pcall (g := 74) rfl kr rfl ((by exact hA 0 (k + 1) (k + 2) (by omega) (by omega) (by omega) _)) rfl) ?_)); refine AF.nm ?_) | refine AF.nl ?_) | ((with_reducible refine ex_on ?_); (rw [show ((k : Int) + 2 + 1) = ((k + 1 : Nat) : Int) + 2 by omega, hs k]; refine ⟨H.length - 2 - (k + 1), _, _, by omega, ?_, k + 1, rfl, by omega, rfl, rfl⟩; exact Wk.fk [0, 3, 4, 5] rfl)) | ((with_reducible refine FinP.on ?_); (refine FinP.ret (.tmp wl .nil) ?_ rfl); (try simp only [pack, List.drop, List.take]); all_goals ((obtain rfl : k = H.length - 2 := (by omega); rfl))))
theorem HullArea_q {m : Mem} {b n c : Nat} {blk : Blk} (l : List Pn) (h0 : cpB l = 0) (hb : m.at b = some blk) (hc : blk.cells = flatP l) (hn : l.length = n) (ho : blk.obj = Ob.plain) : PCalls Tryz.prog 77 [.slice (some ⟨b, 0, none⟩) n c] m (.int .i64 (arS l (hl l) (hl l).length)) := by
 subst hn
 exact PCalls.viaS [b] (HullArea_0 l c blk.esz h0) (ro1p _ rfl) ⟨bS hb ho hc (flatP_scal _), trivial⟩ rfl rfl rfl rfl
end Go.Proofs.YtmohcmghbfhdlaaGreat
end
end
/- Chapter 6: the reference's look for an edge and for a corner, its order of triangles. -/
section
set_option linter.unusedSimpArgs false
set_option linter.unusedVariables false
section
namespace Go.Me
open Go.Ab Go.Proofs.YtmohcmghbfhdlaaGreat
def bfB (a b : T3) : Bool := decide (cmp3 a b < 0)
theorem bf_1 {a b : T3} (h : a.1 ≠ b.1) : bfB a b = decide (a.1 < b.1) := by
 unfold bfB cmp3 cmpI
 by_cases h1 : a.1 < b.1
 ·simp [h1]
 ·have : b.1 < a.1 := by omega
  simp [h1, this]
theorem bf_2 {a b : T3} (h0 : a.1 = b.1) (h : a.2.1 ≠ b.2.1) : bfB a b = decide (a.2.1 < b.2.1) := by
 unfold bfB cmp3 cmpI
 by_cases h1 : a.2.1 < b.2.1
 ·simp [h0, h1]
 ·have : b.2.1 < a.2.1 := by omega
  simp [h0, h1, this]
theorem bf_3 {a b : T3} (h0 : a.1 = b.1) (h2 : a.2.1 = b.2.1) (h : a.2.2 ≠ b.2.2) : bfB a b = decide (a.2.2 < b.2.2) := by
 unfold bfB cmp3 cmpI
 by_cases h1 : a.2.2 < b.2.2
 ·simp [h0, h2, h1]
 ·have : b.2.2 < a.2.2 := by omega
  simp [h0, h2, h1, this]
theorem bf_4 {a b : T3} (h0 : a.1 = b.1) (h2 : a.2.1 = b.2.1) (h : a.2.2 = b.2.2) : bfB a b = false := by
 unfold bfB cmp3 cmpI
 simp [h0, h2, h]
def hsB (t : T3) (n : Int) : Bool := decide (t.1 = n ∨ t.2.1 = n ∨ t.2.2 = n)
end Go.Me
namespace Go.Proofs.YtmohcmghbfhdlaaGreat
open Go Go.RowKit Go.Ab Go.Me
set_option maxRecDepth 100000
set_option maxHeartbeats 4000000
attribute [local irreducible] OQ OW AL AW AF SW
theorem Before_0 (x y : T3) (c d z z1 : Nat) : PCalls Tryz.prog 134 [.slice (some ⟨0, 0, none⟩) 3 c, .slice (some ⟨1, 0, none⟩) 3 d] [some ⟨tcC x, false, z⟩, some ⟨tcC y, false, z1⟩] (.bool (bfB x y)) := by
 have b1 := @bf_1 x y
 have b2 := @bf_2 x y
 have b3 := @bf_3 x y
 have b4 := @bf_4 x y
 unfold tcC
 generalize bfB x y = B0 at *
 refine PCalls.en 39 Tryz.func134 rfl (ro2p _ _ rfl rfl) rfl (fun E => ?_)
 repeat' (first | with_reducible (first | refine Then.n ?_ | refine Then.r ?_ | refine Then.x ?_ | refine InB.n ?_ | refine InB.r ?_ | refine InB.hit ?_) | ((with_reducible refine AL.on ?_); first | (refine AL.gd rfl ?_; (refine AL.gs1 rfl rfl (fun hc => ?_) (fun hc => ?_) <;> (try replace hc := nc hc) <;> first | (exfalso; contradiction) | refine AL.nm ?_)) | ((first | refine AL.mv ?_ | ((with_reducible refine AL.k_binOp ?_); first | refine AL.g (OQ.lss rfl rfl) ?_ | refine AL.g (OQ.neq rfl rfl) ?_ | refine AL.g (OQ.addi rfl rfl (by omega)) ?_) | refine AL.as ?_ | ((with_reducible refine AL.k_call ?_); refine AL.g (OQ.lenS (xt := 26) (r := (none, 1, false)) rfl kr) ?_) | ((with_reducible refine AL.k_pick ?_); first | refine AL.pT ?_ | refine AL.pF ?_)); refine AL.nm ?_) | refine AL.nil ?_) | ((with_reducible refine AW.on ?_); first | refine AW.seq ?_ | refine AW.skip ?_ | refine AW.exit ?_ | refine AW.ret ?_ | (refine AW.block (id := 0) ?_; refine AW.unroll 4 ?_) | refine AW.block ?_ | (refine AW.drawF (id := 4) 8 #[0, 0, 3, 7, 0, 0, 48, 112, 255] kr kr ?_; (conv => (arg 8; simp only [List.take_succ_cons, List.take_zero]))) | (refine AW.drawF (id := 5) 8 #[0, 0, 3, 7, 0, 0, 48, 112, 255, 511] kr kr ?_; (conv => (arg 8; simp only [List.take_succ_cons, List.take_zero]))) | refine AW.region ?_ | (refine AW.conds rfl (fun hc => ?_) (fun hc => ?_) <;> (try replace hc := nc hc) <;> first | (exfalso; contradiction) | skip)) | ((with_reducible refine AF.on ?_); first | ((first | ((with_reducible refine AF.k_move ?_); (refine AF.q 0 (SW.q (OQ.move wl) rfl) ?_)) | ((with_reducible refine AF.k_indexAddr ?_); refine AF.q 0 (SW.q (OQ.idxAddr (ty := 26) (z := 1) (g := false) rfl rfl kr (by omega) (by omega)) rfl) ?_) | ((with_reducible refine AF.k_load ?_); (refine AF.ql rfl (SW.q (OQ.load1 (ty := 3) rfl kr wl) rfl) ?_))); refine AF.nm ?_) | refine AF.nl ?_) | with_reducible refine AR.s ?_ | ((with_reducible refine FinP.on ?_); (refine FinP.ret (.tmp wl .nil) ?_ rfl); (try simp only [pack, List.drop, List.take]); all_goals (first | (rw [b1 ‹_›]; done) | (rw [b2 ‹_› ‹_›]; done) | (rw [b3 ‹_› ‹_› ‹_›]; done) | (rw [b4 (by omega) (by omega) (by omega)]; simp; done))))
theorem Before_q {m : Mem} {i j c d : Nat} {A B : Blk} (x y : T3) (a1 : m.at i = some A) (a2 : A.cells = tcC x) (b1 : m.at j = some B) (b2 : B.cells = tcC y) (a3 : A.obj = Ob.plain) (b3 : B.obj = Ob.plain) : PCalls Tryz.prog 134 [.slice (some ⟨i, 0, none⟩) 3 c, .slice (some ⟨j, 0, none⟩) 3 d] m (.bool (bfB x y)) :=
 PCalls.viaS [i, j] (Before_0 x y c d A.esz B.esz) (ro2p _ _ rfl rfl) ⟨⟨_, a1, by unfold Blk.shp Blk.shpR; rw [a3]; rfl, (fun h => nomatch h), .inl ⟨a2, rfl⟩⟩, ⟨_, b1, by unfold Blk.shp Blk.shpR; rw [b3]; rfl, (fun h => nomatch h), .inl ⟨b2, rfl⟩⟩, trivial⟩ rfl rfl rfl rfl
theorem before_q (x y : T3) (m : Mem) : PCalls Tryz.prog 73 [.agg #[.int .i64 x.1, .int .i64 x.2.1, .int .i64 x.2.2], .agg #[.int .i64 y.1, .int .i64 y.2.1, .int .i64 y.2.2]] m (.bool (bfB x y)) := by
 refine PCalls.any ?_ rfl rfl m
 have hB := fun (m : Mem) (i j c d : Nat) (A B : Blk) (a1 : m.at i = some A) (a2 : A.cells = tcC x) (b1 : m.at j = some B) (b2 : B.cells = tcC y) (a3 : A.obj = Ob.plain) (b3 : B.obj = Ob.plain) => Before_q (c := c) (d := d) x y a1 a2 b1 b2 a3 b3
 generalize bfB x y = B0 at *
 refine PCalls.en 6 Tryz.func73 rfl (ro_nil) rfl (fun E => ?_)
 repeat' (first | with_reducible (refine Then.n ?_) | ((with_reducible refine AL.on ?_); first | ((refine AL.as ?_); refine AL.nm ?_) | ((refine AL.pcall (g := 134) rfl kr rfl ((by exact hB _ _ _ _ _ _ _ rfl rfl rfl rfl rfl rfl)) ?_); refine AL.nm ?_) | ((refine AL.bx ?_); refine AL.nm ?_; refine AL.nM ?_) | refine AL.nil ?_) | ((with_reducible refine AW.on ?_); first | refine AW.seq ?_ | refine AW.ret ?_ | (refine AW.drawF (id := 1) 2 #[0, 0, 3, 7] kr kr ?_; (conv => (arg 8; simp only [List.take_succ_cons, List.take_zero]))) | refine AW.region ?_) | ((with_reducible refine AF.on ?_); first | ((refine AF.q 2 (SW.q (by exact OQ.sliceA (ty := 62) (n := 3) (z := 1) (g := false) (l := 0) (h := 3) rfl kr rfl rfl rfl rfl (by decide) (by decide) (by decide)) rfl) ?_); refine AF.nm ?_) | refine AF.nl ?_) | ((with_reducible refine FinP.on ?_); (refine FinP.ret (.tmp wl .nil) ?_ rfl); (try simp only [pack, List.drop, List.take]); all_goals (rfl)))
theorem Has_0 (ts : List T3) (k : Nat) (hk : k < ts.length) (n : Int) (c z : Nat) (hl : ts.length ≤ 1000000) : PCalls Tryz.prog 78 [.slice (some ⟨0, k * 3, none⟩) 3 c, .int .i64 n] [some ⟨flatT ts, false, z⟩] (.bool (hsB (tr ts k) n)) := by
 obtain ⟨g0, g1, g2⟩ := flatT_get ts k hk
 generalize tr ts k = t at *
 have h1 : t.1 = n → hsB t n = true := fun h => decide_eq_true (.inl h)
 have h2 : t.2.1 = n → hsB t n = true := fun h => decide_eq_true (.inr (.inl h))
 have h3 : t.2.2 = n → hsB t n = true := fun h => decide_eq_true (.inr (.inr h))
 have h4 : t.1 ≠ n → t.2.1 ≠ n → t.2.2 ≠ n → hsB t n = false := fun h h2 h3 => decide_eq_false (by omega)
 generalize hsB t n = B0 at *
 refine PCalls.en 16 Tryz.func78 rfl (ro1p _ rfl) rfl (fun E => ?_)
 repeat' (first | with_reducible (first | refine Then.n ?_ | refine Then.r ?_ | refine Then.x ?_ | refine InB.n ?_ | refine InB.r ?_ | refine InB.hit ?_) | ((with_reducible refine AL.on ?_); first | ((first | refine AL.mv ?_ | refine AL.as ?_ | ((with_reducible refine AL.k_binOp ?_); first | refine AL.g (OQ.lss rfl rfl) ?_ | refine AL.g (OQ.eql rfl rfl) ?_ | refine AL.g (OQ.addi rfl rfl (by omega)) ?_) | ((with_reducible refine AL.k_call ?_); refine AL.g (OQ.lenS (xt := 26) (r := (none, 1, false)) rfl kr) ?_) | ((with_reducible refine AL.k_load ?_); (refine AL.g (OQ.load1 (ty := 3) rfl kr (by (first | exact g0 | exact g1 | exact g2))) ?_))); refine AL.nm ?_) | ((refine AL.g (OQ.idxAddr (ty := 26) (z := 1) (g := false) rfl rfl kr (by omega) (by omega)) ?_); refine AL.nm ?_) | refine AL.nil ?_) | ((with_reducible refine AW.on ?_); first | refine AW.seq ?_ | refine AW.skip ?_ | refine AW.exit ?_ | refine AW.ret ?_ | (refine AW.block (id := 0) ?_; refine AW.unroll 4 ?_) | refine AW.block ?_ | refine AW.region ?_ | (refine AW.conds rfl (fun hc => ?_) (fun hc => ?_) <;> (try replace hc := nc hc) <;> first | (exfalso; contradiction) | skip)) | with_reducible refine AR.s ?_ | ((with_reducible refine FinP.on ?_); (refine FinP.ret (.tmp wl .nil) ?_ rfl); (try simp only [pack, List.drop, List.take]); all_goals (first | (rw [h1 (by omega)]; done) | (rw [h2 (by omega)]; done) | (rw [h3 (by omega)]; done) | (rw [h4 (by omega) (by omega) (by omega)]; done))))
theorem Has_q {m : Mem} {b k c : Nat} {blk : Blk} (ts : List T3) (hk : k < ts.length) (n : Int) (hl : ts.length ≤ 1000000) (hb : m.at b = some blk) (hc : blk.cells = flatT ts) (ho : blk.obj = Ob.plain) : PCalls Tryz.prog 78 [.slice (some ⟨b, k * 3, none⟩) 3 c, .int .i64 n] m (.bool (hsB (tr ts k) n)) :=
 PCalls.viaS [b] (Has_0 ts k hk n c blk.esz hl) (ro1p _ rfl) ⟨bS hb ho hc (flatT_scal _), trivial⟩ rfl rfl rfl rfl
theorem has_0 (ts : List T3) (n : Nat) (hn : n ≤ ts.length) (hl : ts.length ≤ 1000000) (a b : Int) (c z : Nat) : PCalls Tryz.prog 75 [.slice (some ⟨0, 0, none⟩) n c, .int .i64 a, .int .i64 b] [some ⟨flatT ts, false, z⟩] (.int .i64 (lk (lf ts n) (a, b))) := by
 have hg := fun k (hk : k < ts.length) => flatT_get ts k hk
 have hy : ∀ k, lk (lf ts k) (a, b) = -1 → k < n → (((tr ts k).1 = a ∧ (tr ts k).2.1 = b) ∨ ((tr ts k).2.1 = a ∧ (tr ts k).2.2 = b) ∨ ((tr ts k).2.2 = a ∧ (tr ts k).1 = b)) → lk (lf ts n) (a, b) = k := fun k h1 h2 h3 => has_yes h1 (by unfold isE; simp only [Prod.mk.injEq]; omega) h2
 have hno : ∀ k, lk (lf ts k) (a, b) = -1 → ¬ ((tr ts k).1 = a ∧ (tr ts k).2.1 = b) → ¬ ((tr ts k).2.1 = a ∧ (tr ts k).2.2 = b) → ¬ ((tr ts k).2.2 = a ∧ (tr ts k).1 = b) → lk (lf ts (k + 1)) (a, b) = -1 := fun k h1 h2 h3 h4 => has_no h1 (by unfold isE; simp only [Prod.mk.injEq]; omega)
 have h0 : lk (lf ts 0) (a, b) = -1 := rfl
 generalize hLK : (fun k => lk (lf ts k) (a, b)) = LK at *
 have e : ∀ k, lk (lf ts k) (a, b) = LK k := fun k => by rw [← hLK]
 simp only [e] at *
 clear hLK e
 refine PCalls.en 37 Tryz.func75 rfl (ro1p _ rfl) rfl (fun E => ?_)
 repeat' (first | with_reducible (first | refine Then.n ?_ | refine Then.r ?_ | refine Then.x ?_ | refine InB.n ?_ | refine InB.r ?_ | refine InB.hit ?_) | ((with_reducible refine AL.on ?_); first | (refine AL.gd rfl ?_; (refine AL.gs1 rfl rfl (fun hc => ?_) (fun hc => ?_) <;> (try replace hc := nc hc) <;> first | (exfalso; contradiction) | refine AL.nm ?_)) | ((first | refine AL.mv ?_ | ((with_reducible refine AL.k_binOp ?_); first | refine AL.g (OQ.lss rfl rfl) ?_ | refine AL.g (OQ.eql rfl rfl) ?_ | refine AL.g (OQ.addi rfl rfl (by omega)) ?_ | refine AL.g (OQ.rem rfl rfl (by omega)) ?_) | refine AL.as ?_ | ((with_reducible refine AL.k_load ?_); (refine AL.g (OQ.load1 (ty := 3) rfl kr (by (first | exact (hg k (by omega)).1 | exact (hg k (by omega)).2.1 | exact (hg k (by omega)).2.2))) ?_)) | ((with_reducible refine AL.k_call ?_); refine AL.g (OQ.lenS (xt := 23) (r := (none, 3, true)) rfl kr) ?_) | ((with_reducible refine AL.k_pick ?_); first | refine AL.pT ?_ | refine AL.pF ?_)); refine AL.nm ?_) | ((first | refine AL.g (OQ.idxAddr (ty := 23) (z := 3) (g := true) rfl rfl kr (by omega) (by omega)) ?_ | refine AL.g (OQ.idxPtr (ty := 62) (n := 1) (l := 3) (g := false) rfl rfl kr (by first | omega | decide) (by first | omega | decide)) ?_); refine AL.nm ?_) | refine AL.nil ?_) | ((with_reducible refine AW.on ?_); first | refine AW.seq ?_ | refine AW.skip ?_ | refine AW.exit ?_ | refine AW.ret ?_ | ((refine AW.block (id := 0) ?_); (refine AW.fk [0, 1, 2, 7] ?_); (refine AW.loop (fun n' t' m => ∃ k : Nat, n' = n - k ∧ k ≤ n ∧ LK k = -1 ∧ t' = (mtz 40 0 [(0, .slice (some ⟨0, 0, none⟩) n c), (1, .int .i64 (a)), (2, .int .i64 (b)), (7, .int .i64 (k))]) ∧ m = [some ⟨flatT ts, false, z⟩]) (n) (by exact ⟨0, rfl, Nat.zero_le _, h0, rfl, rfl⟩) ?_); (rintro n' t' m ⟨k, rfl, hk, hj, rfl, rfl⟩); (refine AW.nT ?_)) | (refine AW.block (id := 2) ?_; refine AW.unroll 4 ?_) | refine AW.block ?_ | refine AW.region ?_ | (refine AW.conds rfl (fun hc => ?_) (fun hc => ?_) <;> (try replace hc := nc hc) <;> first | (exfalso; first | contradiction | (omega); done) | skip)) | with_reducible refine AR.s ?_ | ((with_reducible refine ex_on ?_); (refine ⟨n - (k + 1), _, _, by omega, ?_, k + 1, rfl, by omega, hno k hj (by omega) (by omega) (by omega), rfl, rfl⟩; exact Wk.fk [0, 1, 2, 7] rfl)) | ((with_reducible refine FinP.on ?_); (refine FinP.ret (.tmp wl .nil) ?_ rfl); (try simp only [pack, List.drop, List.take]); all_goals (first | (rw [hy k hj (by omega) (by omega)]; done) | (obtain rfl : k = n := (by omega); rw [hj]))))
theorem has_q {m : Mem} {bT n c : Nat} {blk : Blk} (ts : List T3) (hn : n ≤ ts.length) (hl : ts.length ≤ 1000000) (a b : Int) (hb : m.at bT = some blk) (hc : blk.cells = flatT ts) (ho : blk.obj = Ob.plain) : PCalls Tryz.prog 75 [.slice (some ⟨bT, 0, none⟩) n c, .int .i64 a, .int .i64 b] m (.int .i64 (lk (lf ts n) (a, b))) :=
 PCalls.viaS [bT] (has_0 ts n hn hl a b c blk.esz) (ro1p _ rfl) ⟨bS hb ho hc (flatT_scal _), trivial⟩ rfl rfl rfl rfl
end Go.Proofs.YtmohcmghbfhdlaaGreat
end
end
/- Chapter 6: the errors of a net, as the reference meets them (plain). -/
section
set_option linter.unusedSimpArgs false
set_option linter.unusedVariables false
namespace Go.Me
open Go.Ab Go.Proofs.YtmohcmghbfhdlaaGreat
set_option maxRecDepth 100000
theorem rgB_no {n a b : Int} (h : rgB n a b = false) : ¬ (a ≤ n ∧ n ≤ b) := of_decide_eq_false h
theorem rgB_ye {n a b : Int} (h : rgB n a b = true) : a ≤ n ∧ n ≤ b := of_decide_eq_true h
theorem lk_ge (ts : List T3) (k : Nat) (e : IE) : -1 ≤ lk (lf ts k) e := by
 by_cases h : e ∈ (lf ts k).map (·.1)
 ·have := (lf_ix k _ (lk_mem h)).1
  simp only at this
  omega
 ·rw [lk_not h]
  omega
theorem trS_pos {l : List Pn} {t : T3} : trS l t = 1 ↔ 0 < cr (pt l t.1.toNat) (pt l t.2.1.toNat) (pt l t.2.2.toNat) := by
 unfold trS sgn
 repeat' split
 all_goals omega
section
variable {l : List Pn} {ts : List T3} {k : Nat}
theorem rn_of {e : Int} (h0 : cpB l = 0) (h80 : ts.length ≤ 80) (hk : k < ts.length) (hj : ∀ j, j < k → trK l ts j = 0) (he : trK l ts k = e) (hne : e ≠ 0) : netI l ts = k ∧ netE l ts = e := by
 have := netE_t h0 h80 hk hj (by rw [he]; exact hne)
 rw [he] at this
 exact ⟨this.2, this.1⟩
theorem rn_6 (h0 : cpB l = 0) (h80 : ts.length ≤ 80) (hk : k < ts.length) (hj : ∀ j, j < k → trK l ts j = 0) (h : ¬ inR l.length (tr ts k)) : netI l ts = k ∧ netE l ts = 6 :=
 rn_of h0 h80 hk hj (by unfold trK trE; rw [if_neg h]) (by decide)
theorem rn_9 (h0 : cpB l = 0) (h80 : ts.length ≤ 80) (hk : k < ts.length) (hj : ∀ j, j < k → trK l ts j = 0) (h : inR l.length (tr ts k)) (h2 : ordB ts k) : netI l ts = k ∧ netE l ts = 9 :=
 rn_of h0 h80 hk hj (by unfold trK trE; rw [if_pos h, if_pos h2]) (by decide)
theorem ordB_not (h1 : (tr ts k).1 < (tr ts k).2.1) (h2 : (tr ts k).1 < (tr ts k).2.2) (h3 : 0 < k → bfB (tr ts (k - 1)) (tr ts k) = true) : ¬ ordB ts k := by
 unfold ordB
 rintro (h | h | ⟨h, h4⟩)
 ·omega
 ·omega
 ·have := of_decide_eq_true (h3 h)
  rw [cmp3_anti] at this
  omega
theorem ordB_bf (h : 0 < k) (h2 : bfB (tr ts (k - 1)) (tr ts k) = false) : ordB ts k := by
 refine .inr (.inr ⟨h, ?_⟩)
 have := of_decide_eq_false h2
 rw [cmp3_anti] at this
 omega
theorem rn_13 (h0 : cpB l = 0) (h80 : ts.length ≤ 80) (hk : k < ts.length) (hj : ∀ j, j < k → trK l ts j = 0) (h : inR l.length (tr ts k)) (h2 : ¬ ordB ts k) (h3 : cr (pt l (tr ts k).1.toNat) (pt l (tr ts k).2.1.toNat) (pt l (tr ts k).2.2.toNat) ≤ 0) : netI l ts = k ∧ netE l ts = 13 :=
 rn_of h0 h80 hk hj (by unfold trK trE; rw [if_pos h, if_neg h2, if_pos (fun h4 => by have := trS_pos.1 h4; omega)]) (by decide)
theorem rn_28 (h0 : cpB l = 0) (h80 : ts.length ≤ 80) (hk : k < ts.length) (hj : ∀ j, j < k → trK l ts j = 0) (h : inR l.length (tr ts k)) (h2 : ¬ ordB ts k) (h3 : 0 < cr (pt l (tr ts k).1.toNat) (pt l (tr ts k).2.1.toNat) (pt l (tr ts k).2.2.toNat)) (h4 : 0 ≤ lk (lf ts k) ((tr ts k).1, (tr ts k).2.1) ∨ 0 ≤ lk (lf ts k) ((tr ts k).2.1, (tr ts k).2.2) ∨ 0 ≤ lk (lf ts k) ((tr ts k).2.2, (tr ts k).1)) : netI l ts = k ∧ netE l ts = 28 :=
 rn_of h0 h80 hk hj (by unfold trK trE; rw [if_pos h, if_neg h2, if_neg (fun h5 => h5 (trS_pos.2 h3)), if_pos (by omega)]) (by decide)
theorem rn_0 (h : inR l.length (tr ts k)) (h2 : ¬ ordB ts k) (h3 : 0 < cr (pt l (tr ts k).1.toNat) (pt l (tr ts k).2.1.toNat) (pt l (tr ts k).2.2.toNat)) (h4 : lk (lf ts k) ((tr ts k).1, (tr ts k).2.1) < 0) (h5 : lk (lf ts k) ((tr ts k).2.1, (tr ts k).2.2) < 0) (h6 : lk (lf ts k) ((tr ts k).2.2, (tr ts k).1) < 0) : trK l ts k = 0 := by
 have a1 := lk_ge ts k ((tr ts k).1, (tr ts k).2.1)
 have a2 := lk_ge ts k ((tr ts k).2.1, (tr ts k).2.2)
 have a3 := lk_ge ts k ((tr ts k).2.2, (tr ts k).1)
 unfold trK trE
 rw [if_pos h, if_neg h2, if_neg (fun h5 => h5 (trS_pos.2 h3)), if_neg (by omega)]
theorem lf_tri {p : IE × Int} : ∀ n, p ∈ lf ts n ↔ ∃ j : Nat, j < n ∧ p.2 = j ∧ isE (tr ts j) p.1
 | 0 => by
  unfold lf
  constructor
  ·intro h; cases h
  ·rintro ⟨j, h, _⟩; omega
 | n + 1 => by
  unfold lf
  simp only [List.mem_append, List.mem_singleton]
  rw [lf_tri n]
  unfold isE
  constructor
  ·rintro (((⟨j, h1, h2, h3⟩ | h) | h) | h)
   ·exact ⟨j, by omega, h2, h3⟩
   ·exact ⟨n, by omega, by rw [h], .inl (by rw [h])⟩
   ·exact ⟨n, by omega, by rw [h], .inr (.inl (by rw [h]))⟩
   ·exact ⟨n, by omega, by rw [h], .inr (.inr (by rw [h]))⟩
  ·rintro ⟨j, h1, h2, h3⟩
   rcases Nat.lt_or_eq_of_le (Nat.le_of_lt_succ h1) with h4 | rfl
   ·exact .inl (.inl (.inl ⟨j, h4, h2, h3⟩))
   ·rcases h3 with h3 | h3 | h3
    ·exact .inl (.inl (.inr (Prod.ext h3 h2)))
    ·exact .inl (.inr (Prod.ext h3 h2))
    ·exact .inr (Prod.ext h3 h2)
def bdO (l : List Pn) (ts : List T3) (a b : Int) : Prop := lk (lfA ts) (b, a) < 0 → bdB l a.toNat b.toNat = true
theorem rn_25 (h0 : cpB l = 0) (h80 : ts.length ≤ 80) (hall : ∀ j, j < ts.length → trK l ts j = 0) (hk : k < ts.length) {a b : Int} (he : isE (tr ts k) (a, b)) (h1 : lk (lfA ts) (b, a) < 0) (h2 : bdB l a.toNat b.toNat = false) : netI l ts = 0 ∧ netE l ts = 25 := by
 have hm : ((a, b), (k : Int)) ∈ lfA ts := (lf_tri _).2 ⟨k, hk, rfl, he⟩
 have hg := lk_ge ts ts.length (b, a)
 have := netE_o h0 h80 hall (opB_yes hm (by show lk (lfA ts) (b, a) = -1; unfold lfA at *; omega) h2)
 exact ⟨this.2, this.1⟩
theorem rn_op (h : ∀ j, j < ts.length → bdO l ts (tr ts j).1 (tr ts j).2.1 ∧ bdO l ts (tr ts j).2.1 (tr ts j).2.2 ∧ bdO l ts (tr ts j).2.2 (tr ts j).1) : opB l ts = false :=
 opB_no fun p hp h1 => by
  obtain ⟨j, hj, _, h3⟩ := (lf_tri _).1 hp
  obtain ⟨a1, a2, a3⟩ := h j hj
  rcases h3 with h3 | h3 | h3
  ·rw [h3] at h1 ⊢
   exact a1 (by simp only at h1; omega)
  ·rw [h3] at h1 ⊢
   exact a2 (by simp only at h1; omega)
  ·rw [h3] at h1 ⊢
   exact a3 (by simp only at h1; omega)
theorem rn_14 (h0 : cpB l = 0) (h80 : ts.length ≤ 80) (hall : ∀ j, j < ts.length → trK l ts j = 0) (ho : opB l ts = false) (h : ts.length = 0 ∨ arT l ts ts.length ≠ arS l (hl l) (hl l).length) : netI l ts = 0 ∧ netE l ts = 14 := by
 have hg : gpB l ts = true := by
  unfold gpB
  rcases h with h | h
  ·rw [decide_eq_true h]
   simp
  ·rw [decide_eq_true h]
   simp
 have := netE_g h0 h80 hall ho hg
 exact ⟨this.2, this.1⟩
def usK (ts : List T3) (i : Int) : Nat → Bool
 | 0 => false
 | k + 1 => usK ts i k || hsB (tr ts k) i
theorem usK_true {i : Int} : ∀ n, usK ts i n = true ↔ i ∈ us ts n
 | 0 => by unfold usK us; simp
 | n + 1 => by
  unfold usK us
  rw [Bool.or_eq_true, usK_true n, insL_mem, insL_mem, insL_mem]
  unfold hsB
  rw [decide_eq_true_iff, or_assoc, or_assoc]
  constructor
  ·rintro (h | h | h | h)
   ·exact .inl h
   ·exact .inr (.inl h.symm)
   ·exact .inr (.inr (.inl h.symm))
   ·exact .inr (.inr (.inr h.symm))
  ·rintro (h | h | h | h)
   ·exact .inl h
   ·exact .inr (.inl h.symm)
   ·exact .inr (.inr (.inl h.symm))
   ·exact .inr (.inr (.inr h.symm))
theorem rn_us (h0 : cpB l = 0) (h80 : ts.length ≤ 80) (hall : ∀ j, j < ts.length → trK l ts j = 0) (ho : opB l ts = false) {i : Nat} (hi : i < l.length) (h : usK ts i ts.length = false) : netI l ts = 0 ∧ netE l ts = 14 := by
 have hg : gpB l ts = true := by
  unfold gpB
  have : (us ts ts.length).length ≠ l.length := fun he => by
   have := (usK_true _).2 ((us_full hall).1 he i hi)
   rw [h] at this
   cases this
  rw [decide_eq_true this]
  simp
 have := netE_g h0 h80 hall ho hg
 exact ⟨this.2, this.1⟩
theorem rn_ok (h0 : cpB l = 0) (h80 : ts.length ≤ 80) (hall : ∀ j, j < ts.length → trK l ts j = 0) (ho : opB l ts = false) (h1 : 0 < ts.length) (h2 : arT l ts ts.length = arS l (hl l) (hl l).length) (h3 : ∀ i : Nat, i < l.length → usK ts i ts.length = true) : netI l ts = 0 ∧ netE l ts = 0 := by
 have hg : gpB l ts = false := by
  unfold gpB
  rw [decide_eq_false (by omega), decide_eq_false (by rw [h2]; simp), decide_eq_false]
  ·rfl
  ·rw [Classical.not_not]
   exact (us_full hall).2 fun i hi => (usK_true _).1 (h3 i hi)
 have hR : NetR l ts := ⟨h0, h80, hall, ho, hg⟩
 exact ⟨netI_0 (netE_0.2 hR), netE_0.2 hR⟩
end
end Go.Me
end
