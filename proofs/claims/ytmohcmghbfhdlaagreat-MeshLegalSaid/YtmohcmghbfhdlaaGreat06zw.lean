/- MeshLegal: the first illegal edge of a net is as specified, or the error; where there is none all circles are empty. -/
import Derived.Test.YtmohcmghbfhdlaaGreatQd
import Derived.Test.YtmohcmghbfhdlaaGreatRows
import Derived.Test.YtmohcmghbfhdlaaGreatQk
import Derived.Test.YtmohcmghbfhdlaaGreatQx
import Derived.Test.YtmohcmghbfhdlaaGreatRa
import Derived.Test.YtmohcmghbfhdlaaGreatRg
set_option linter.unusedSimpArgs false
set_option linter.unusedVariables false
section
namespace Go.Proofs.YtmohcmghbfhdlaaGreat
open Go Go.RowKit Go.Ab Go.Me
set_option maxRecDepth 100000
set_option maxHeartbeats 4000000
attribute [local irreducible] OQ OW AL AW AF SW
theorem MeshLegal_f (v w : Value) (l : List Pn) (ts : List T3) (o1 o2 : Option Blk) (hr : Mem.ro [o1, o2]) (hv : SlV [o1, o2] 0 v (flatP l) l.length) (hw : SlV [o1, o2] 1 w (flatT ts) ts.length) (hl : (l.length : Int) ≤ 9223372036854775807) (ht : (ts.length : Int) ≤ 9223372036854775807) (he : liB l ts = false) :
    PCalls Tryz.prog 7 [.agg #[v, w]] [o1, o2] (.bool true) := by
  have hLi := fun (m : Mem) (e0 : m.at 0 = Mem.at [o1, o2] 0) (e1 : m.at 1 = Mem.at [o1, o2] 1) => Light_g (m := m) (hv.of e0) (hw.of e1) hl ht
  rw [he] at hLi
  refine PCalls.en 99 Tryz.func7 rfl (hr) rfl (fun E => ?_)
  repeat' (first | with_reducible (first | refine Then.n ?_ | refine Then.r ?_) | ((with_reducible refine AL.on ?_); first | ((first | ((with_reducible refine AL.k_load ?_); refine AL.g (OQ.loadN (ty := 25) (n := 2) rfl kr kr rfl) ?_) | refine AL.as ?_ | ((with_reducible refine AL.k_unOp ?_); refine AL.g (OQ.not rfl) ?_)); refine AL.nm ?_) | ((((with_reducible refine AL.k_call ?_); first | refine AL.pcall (g := 12) rfl kr rfl ((by exact awake_q _)) ?_ | refine AL.pcall (g := 13) rfl kr rfl ((by exact hLi _ rfl rfl)) ?_)); refine AL.nm ?_) | ((refine AL.bx ?_); refine AL.nm ?_; refine AL.nM ?_) | refine AL.nil ?_) | ((with_reducible refine AW.on ?_); first | refine AW.seq ?_ | refine AW.skip ?_ | refine AW.ret ?_ | refine AW.region ?_ | (refine AW.conds rfl (fun hc => ?_) (fun hc => ?_) <;> (try replace hc := nc hc) <;> first | (exfalso; contradiction) | skip)) | ((with_reducible refine FinP.on ?_); (refine FinP.ret (.tmp wl .nil) ?_ rfl); (try simp only [pack, List.drop, List.take]); all_goals (rfl)))
theorem MeshLegal_e (v w : Value) (l : List Pn) (ts : List T3) (hv : SlV [Ls.blX (flatP l), Ls.blX (flatT ts)] 0 v (flatP l) l.length) (hw : SlV [Ls.blX (flatP l), Ls.blX (flatT ts)] 1 w (flatT ts) ts.length) (hl : (l.length : Int) ≤ 9223372036854775807) (ht : (ts.length : Int) ≤ 9223372036854775807) (hli : liB l ts = true) (he : netE l ts ≠ 0) :
    PCalls Tryz.prog 7 [.agg #[v, w]] [Ls.blX (flatP l), Ls.blX (flatT ts)] (.bool true) := by
  obtain ⟨l1, l2⟩ := liB_le hli
  have hLi := fun (m : Mem) (e0 : m.at 0 = Ls.blX (flatP l)) (e1 : m.at 1 = Ls.blX (flatT ts)) => Light_g (m := m) (hv.of (m' := m) e0) (hw.of (m' := m) e1) hl ht
  rw [hli] at hLi
  have hC := fun (m : Mem) (e0 : m.at 0 = Ls.blX (flatP l)) (e1 : m.at 1 = Ls.blX (flatT ts)) => Copy_g (m := m) (by decide) (hv.of (m' := m) e0) (hw.of (m' := m) e1) (by omega) (by omega)
  have hI := fun (m : Mem) (bP bT : Nat) (c c2 : Nat) (hA : ArgN m bP bT l ts) => FirstIllegal_e (c := c) (c2 := c2) l ts hA rfl rfl he (by omega)
  have hrN := fun (m : Mem) (e0 : m.at 0 = Ls.blX (flatP l)) (e1 : m.at 1 = Ls.blX (flatT ts)) => rCheckNet_g (m := m) e0 e1 hv hw (by omega) ht
  have hr := ro_bl2 (flatP l) (flatT ts)
  generalize netE l ts = E0 at *
  generalize netI l ts = I0 at *
  generalize Ls.blX (flatP l) = o1 at *
  generalize Ls.blX (flatT ts) = o2 at *
  refine PCalls.en 99 Tryz.func7 rfl (hr) rfl (fun E => ?_)
  repeat' (first | with_reducible (first | refine Then.n ?_ | refine Then.r ?_) | ((with_reducible refine AL.on ?_); first | (refine AL.gd rfl ?_; (refine AL.gs1 rfl rfl (fun hc => ?_) (fun hc => ?_) <;> (try replace hc := nc hc) <;> first | (exfalso; contradiction) | refine AL.nm ?_)) | ((first | refine AL.mv ?_ | ((with_reducible refine AL.k_load ?_); first | refine AL.g (OQ.loadN (ty := 25) (n := 2) rfl kr kr rfl) ?_ | refine AL.g (OQ.loadN (ty := 52) (n := 2) rfl kr kr rfl) ?_) | refine AL.as ?_ | ((with_reducible refine AL.k_binOp ?_); first | refine AL.g (OQ.neq rfl rfl) ?_ | refine AL.g (OQ.eql rfl rfl) ?_ | refine AL.q rfl (eql_t52 rfl rfl) ?_) | refine AL.et ?_ | refine AL.pT ?_ | ((with_reducible refine AL.k_unOp ?_); refine AL.g (OQ.not rfl) ?_)); refine AL.nm ?_) | ((first | ((with_reducible refine AL.k_call ?_); first | refine AL.pcall (g := 12) rfl kr rfl ((by exact awake_q _)) ?_ | refine AL.pcall (g := 13) rfl kr rfl ((by exact hLi _ rfl rfl)) ?_ | refine AL.pcall (g := 37) rfl kr rfl ((by exact hI _ _ _ _ _ ⟨⟨_, rfl, rfl, .inr rfl, rfl⟩, ⟨_, rfl, rfl, rfl⟩, by decide⟩)) ?_ | refine AL.pcall (g := 29) rfl kr rfl ((by exact hrN _ rfl rfl)) ?_) | ((with_reducible refine AL.k_build ?_); refine AL.g (OQ.buildA (ty := 52) (zs := [.int .i64 0, .int .i64 0]) (n := 1) (k := 2) (g := false) kr rfl kr rfl rfl rfl) ?_)); refine AL.nm ?_) | ((first | ((with_reducible refine AL.k_call ?_); refine AL.acall (g := 15) rfl kr rfl ((by exact hC _ rfl rfl)) ?_) | ((with_reducible refine AL.k_alloc ?_); refine AL.w rfl (OW.alloc (ty := 52) (z := [.int .i64 0, .int .i64 0]) kr rfl) ?_) | ((with_reducible refine AL.k_store ?_); (refine AL.w rfl (OW.store (ty := 52) (n := 2) rfl wl rfl rfl kr rfl rfl (by decide) rfl (Nat.le_of_ble_eq_true rfl) (by intro r h; cases h)) ?_)) | refine AL.bx ?_); refine AL.nm ?_; refine AL.nM ?_) | refine AL.nil ?_) | ((with_reducible refine AW.on ?_); first | refine AW.seq ?_ | refine AW.skip ?_ | refine AW.ret ?_ | refine AW.region ?_ | (refine AW.conds rfl (fun hc => ?_) (fun hc => ?_) <;> (try replace hc := nc hc) <;> first | (exfalso; contradiction) | skip)) | ((with_reducible refine FinP.on ?_); (refine FinP.ret (.tmp wl .nil) ?_ rfl); (try simp only [pack, List.drop, List.take]); all_goals (rfl)))
theorem MeshLegal_y (l : List Pn) (ts : List T3) (hli : liB l ts = true) (hR : NetR l ts) :
    PCalls Tryz.prog 7 [.agg #[.slice (some ⟨0, 0, none⟩) l.length INF, .slice (some ⟨1, 0, none⟩) ts.length INF]] [some ⟨flatP l, false, 0⟩, some ⟨flatT ts, false, 0⟩] (.bool true) := by
  obtain ⟨l1, l2⟩ := liB_le hli
  have h0 : 0 < ts.length := hR.g.1
  have h2 := two_of hR.all h0
  have h80 := hR.le
  obtain ⟨h40, hpo, _⟩ := cp_ok hR.cp
  have e1 : Ls.blX (flatP l) = some ⟨flatP l, false, 0⟩ := if_neg (fun h => by have := (flatP_nil l).1 h; omega)
  have e2 : Ls.blX (flatT ts) = some ⟨flatT ts, false, 0⟩ := if_neg (fun h => by have := (flatT_nil ts).1 h; omega)
  have hrN : ∀ (m : Mem) (e0 : m.at 0 = some ⟨flatP l, false, 0⟩) (e1 : m.at 1 = some ⟨flatT ts, false, 0⟩), PCalls Tryz.prog 29 [.agg #[.slice (some ⟨0, 0, none⟩) l.length INF, .slice (some ⟨1, 0, none⟩) ts.length INF]] m (.tuple #[.int .i64 (netI l ts), .int .i64 (netE l ts)]) := fun m m0 m1 =>
    rCheckNet_g (m := m) (by rw [e1]; exact m0) (by rw [e2]; exact m1) (.blk _ (by omega) rfl e1 rfl rfl) (.blk _ h0 rfl e2 rfl rfl) (by omega) (by omega)
  have hLi := fun (m : Mem) (A B : Blk) (a1 : m.at 0 = some A) (a2 : A.cells = flatP l) (b1 : m.at 1 = some B) (b2 : B.cells = flatT ts) (a3 : A.obj = Ob.plain) (b3 : B.obj = Ob.plain) => Light_g (m := m) (i := 0) (j := 1) (.blk A (by omega) rfl a1 a2 a3) (.blk B h0 rfl b1 b2 b3) (by omega) (by omega)
  rw [hli] at hLi
  have hC := fun (m : Mem) (A B : Blk) (a1 : m.at 0 = some A) (a2 : A.cells = flatP l) (b1 : m.at 1 = some B) (b2 : B.cells = flatT ts) (a3 : A.obj = Ob.plain) (b3 : B.obj = Ob.plain) => Copy_y (m := m) (i := 0) (j := 1) (by decide) (by omega) h0 (by omega) (by omega) a1 a2 b1 b2 a3 b3
  have hI := fun (m : Mem) (bP bT : Nat) (hA : ArgN m bP bT l ts) => FirstIllegal_y (c := INF) (c2 := INF) l ts hA rfl rfl hR
  have hrI := fun (m : Mem) (A B : Blk) (a1 : m.at 0 = some A) (a2 : A.cells = flatP l) (b1 : m.at 1 = some B) (b2 : B.cells = flatT ts) (a3 : A.obj = Ob.plain) (b3 : B.obj = Ob.plain) (a4 : A.esz = 0) (b4 : B.esz = 0) => rFirstIllegal_q l ts hR INF INF a1 a2 b1 b2 a3 b3 a4 b4
  rw [netE_0.2 hR] at hrN
  rcases ilI_cases l ts with ⟨hi, hno⟩ | ⟨k, hk, hi⟩
  · obtain ⟨q1, q2, q3⟩ := il_n (l := l) hno
    rw [q1, q2] at hI
    rw [q1, q3] at hrI
    have hem := fun (i k : Nat) (hi : i < ts.length) (hk : k < l.length) => il_empty hR hno hi hk
    have i5 : ∀ j, j < ts.length → (0 ≤ (tr ts j).1 ∧ (tr ts j).1 < l.length) ∧ (0 ≤ (tr ts j).2.1 ∧ (tr ts j).2.1 < l.length) ∧ (0 ≤ (tr ts j).2.2 ∧ (tr ts j).2.2 < l.length) := fun j hj => by
      have h3 := (trK_0 (hR.all j hj)).1
      unfold inR at h3
      omega
    have hic := fun (i j k n : Nat) (hi : i < l.length) (hj : j < l.length) (hk : k < l.length) (hn : n < l.length) (m : Mem) => rInCircle_q (hpo i hi) (hpo j hj) (hpo k hk) (hpo n hn) m
    clear hno
    generalize netI l ts = I0 at *
    refine PCalls.enJ 99 Tryz.func7 rfl (ro2p _ _ rfl rfl) rfl (fun E hE => ?_)
    repeat' (first | with_reducible (first | refine Then.n ?_ | refine Then.x ?_ | refine InB.n ?_ | refine InB.hit ?_) | ((with_reducible refine AL.on ?_); first | (refine AL.gd rfl ?_; (refine AL.gs0 rfl rfl (fun hc => ?_) (fun hc => ?_) <;> (try replace hc := nc hc) <;> first | (exfalso; contradiction) | refine AL.nm ?_)) | ((first | refine AL.mv ?_ | ((with_reducible refine AL.k_load ?_); first | refine AL.g (OQ.loadN (ty := 25) (n := 2) rfl kr kr (by rfl)) ?_ | refine AL.g (OQ.loadN (ty := 52) (n := 2) rfl kr kr (by rfl)) ?_ | (refine AL.g (OQ.load1 (ty := 22) rfl kr (by (conv => lhs; whnf))) ?_) | (refine AL.g (OQ.load1 (ty := 23) rfl kr (by (conv => lhs; whnf))) ?_) | refine AL.g (OQ.loadN (ty := 62) (n := 3) rfl kr kr (by (exact flatT_ld rfl rfl _ (by omega)))) ?_) | refine AL.as ?_ | ((with_reducible refine AL.k_binOp ?_); first | refine AL.g (OQ.neq rfl rfl) ?_ | refine AL.q rfl (nel_t52 rfl rfl) ?_ | refine AL.g (OQ.lss rfl rfl) ?_ | refine AL.g (OQ.gtr rfl rfl) ?_ | refine AL.g (OQ.addi rfl rfl (by omega)) ?_) | ((with_reducible refine AL.k_call ?_); first | refine AL.g (OQ.lenS (xt := 23) (r := (none, 3, true)) rfl kr) ?_ | refine AL.g (OQ.lenS (xt := 22) (r := (none, 2, true)) rfl kr) ?_) | refine AL.et ?_ | refine AL.pF ?_ | ((with_reducible refine AL.k_unOp ?_); refine AL.g (OQ.not rfl) ?_)); refine AL.nm ?_) | ((first | ((with_reducible refine AL.k_call ?_); first | refine AL.pcall (g := 12) rfl kr rfl ((by exact awake_q _)) ?_ | refine AL.pcall (g := 13) rfl kr rfl ((by exact hLi _ _ _ rfl rfl rfl rfl rfl rfl)) ?_ | refine AL.pcall (g := 37) rfl kr rfl ((by exact hI _ _ _ ⟨⟨_, rfl, rfl, .inr rfl, rfl⟩, ⟨_, rfl, rfl, rfl⟩, by decide⟩)) ?_ | refine AL.pcall (g := 29) rfl kr rfl ((by exact hrN _ rfl rfl)) ?_ | refine AL.pcall (g := 38) rfl kr rfl ((by exact hrI _ _ _ rfl rfl rfl rfl rfl rfl rfl rfl)) ?_ | refine AL.pcall (g := 39) rfl kr rfl ((by exact hic _ _ _ _ (by omega) (by omega) (by omega) (by omega) _)) ?_) | ((with_reducible refine AL.k_indexAddr ?_); refine AL.g (OQ.idxAddr (ty := 23) (z := 3) (g := true) rfl rfl kr (by omega) (by omega)) ?_) | ((with_reducible refine AL.k_fieldAddr ?_); first | refine AL.g (OQ.fieldA (ty := 25) (i := 0) (n := 1) (off := 0) (g := false) rfl kr (by decide)) ?_ | refine AL.g (OQ.fieldA (ty := 25) (i := 1) (n := 1) (off := 1) (g := false) rfl kr (by decide)) ?_) | ((with_reducible refine AL.k_build ?_); refine AL.g (OQ.buildA (ty := 52) (zs := [.int .i64 0, .int .i64 0]) (n := 1) (k := 2) (g := false) kr rfl kr rfl rfl rfl) ?_)); refine AL.nm ?_) | ((first | ((with_reducible refine AL.k_call ?_); refine AL.acall (g := 15) rfl kr rfl ((by exact hC _ _ _ rfl rfl rfl rfl rfl rfl)) ?_) | ((with_reducible refine AL.k_alloc ?_); first | refine AL.w rfl (OW.alloc (ty := 52) (z := [.int .i64 0, .int .i64 0]) kr rfl) ?_ | refine AL.w rfl (OW.alloc (ty := 62) (z := [.int .i64 0, .int .i64 0, .int .i64 0]) kr rfl) ?_) | ((with_reducible refine AL.k_store ?_); first | (refine AL.w rfl (OW.store (ty := 52) (n := 2) rfl wl rfl rfl kr rfl rfl (by decide) rfl (Nat.le_of_ble_eq_true rfl) (by intro r h; cases h)) ?_) | (refine AL.w rfl (OW.store (ty := 62) (n := 3) rfl wl rfl rfl kr rfl rfl (by decide) rfl (Nat.le_of_ble_eq_true rfl) (by intro r h; cases h)) ?_)) | refine AL.bx ?_); refine AL.nm ?_; refine AL.nM ?_) | refine AL.nil ?_) | ((with_reducible refine AW.on ?_); first | refine AW.seq ?_ | refine AW.skip ?_ | refine AW.exit ?_ | refine AW.ret ?_ | ((refine AW.block (id := 0) ?_); (refine AW.fk [1, 9, 10] ?_); (refine AW.loop (fun n' t' m => ∃ i : Nat, n' = ts.length - i ∧ i ≤ ts.length ∧ t' = (mtz 100 0 [(1, .pointer (some ⟨2, 0, none⟩)), (9, .slice (some ⟨0, 0, none⟩) l.length INF), (10, .int .i64 (i))]) ∧ m = [some ⟨flatP l, false, 0⟩, some ⟨flatT ts, false, 0⟩, some ⟨[.slice (some ⟨0, 0, none⟩) l.length INF, .slice (some ⟨1, 0, none⟩) ts.length INF], true, 0⟩, some ⟨flatP l, true, 2⟩, some ⟨flatT ts, true, 3⟩, some ⟨[.int .i64 0, .int .i64 0], true, 0⟩, some ⟨[.int .i64 0, .int .i64 0], true, 0⟩]) (ts.length) (by exact ⟨0, rfl, Nat.zero_le _, rfl, rfl⟩) ?_); (rintro n' t' m ⟨i, rfl, hi1, rfl, rfl⟩); (refine AW.nT ?_)) | ((refine AW.block (id := 2) ?_); (refine AW.fk [1, 9, 10, 11, 12] ?_); (refine AW.loop (fun n' t' m => ∃ k : Nat, n' = l.length - k ∧ k ≤ l.length ∧ t' = (mtz 100 0 [(1, .pointer (some ⟨2, 0, none⟩)), (9, .slice (some ⟨0, 0, none⟩) l.length INF), (10, .int .i64 (i)), (11, .pointer (some ⟨7, 0, none⟩)), (12, .int .i64 (k))]) ∧ m = [some ⟨flatP l, false, 0⟩, some ⟨flatT ts, false, 0⟩, some ⟨[.slice (some ⟨0, 0, none⟩) l.length INF, .slice (some ⟨1, 0, none⟩) ts.length INF], true, 0⟩, some ⟨flatP l, true, 2⟩, some ⟨flatT ts, true, 3⟩, some ⟨[.int .i64 0, .int .i64 0], true, 0⟩, some ⟨[.int .i64 0, .int .i64 0], true, 0⟩, some ⟨[.int .i64 (tr ts i).1, .int .i64 (tr ts i).2.1, .int .i64 (tr ts i).2.2], true, 0⟩]) (l.length) (by exact ⟨0, rfl, Nat.zero_le _, rfl, rfl⟩) ?_); (rintro n' t' m ⟨k, rfl, hk, rfl, rfl⟩); (refine AW.nT ?_)) | refine AW.block ?_ | (refine AW.drawF (id := 22) 19 #[0, 0, 2, 7, 15, 0, 0, 64, 224, 480, 0, 0, 2048, 7168, 15360, 0, 0, 98304, 229376, 524287, 1048575] kr kr ?_; (conv => (arg 8; simp only [List.take_succ_cons, List.take_zero])); ((have hq2 := hem i k (by omega) (by omega)))) | (refine AW.region (id := 18) ?_; ((have hq1 := i5 i (by omega)))) | refine AW.region ?_ | (refine AW.conds rfl (fun hc => ?_) (fun hc => ?_) <;> (try replace hc := nc hc) <;> first | (exfalso; first | contradiction | (omega); done) | skip)) | ((with_reducible refine AF.on ?_); first | ((first | ((with_reducible refine AF.k_move ?_); (refine AF.q 0 (SW.q (OQ.move wl) rfl) ?_)) | ((with_reducible refine AF.k_load ?_); first | (refine AF.ql rfl (SW.q (OQ.load1 (ty := 3) rfl kr (by (conv => lhs; whnf))) rfl) ?_) | refine AF.ql rfl (SW.q (OQ.loadN (ty := 65) (n := 2) rfl kr kr (by (exact flatP_ld rfl rfl _ (by omega)))) rfl) ?_) | ((with_reducible refine AF.k_indexAddr ?_); first | refine AF.q 0 (SW.q (OQ.idxPtr (ty := 62) (n := 1) (l := 3) (g := false) rfl rfl kr (by omega) (by omega)) rfl) ?_ | refine AF.q 0 (SW.q (OQ.idxAddr (ty := 22) (z := 2) (g := true) rfl rfl kr (by omega) (by omega)) rfl) ?_)); refine AF.nm ?_) | refine AF.nl ?_) | ((with_reducible refine ex_on ?_); first | ((refine ⟨ts.length - (i + 1), [jk, .pointer (some ⟨2, 0, none⟩), jk, jk, jk, jk, jk, jk, jk, .slice (some ⟨0, 0, none⟩) l.length INF, .int .i64 (((i + 1 : Nat) : Int)), jk, jk, jk, jk, jk, jk, jk, jk, jk, jk, jk, jk, jk, jk, jk, jk, jk, jk, jk, jk, jk, jk, jk, jk, jk, jk, jk, jk, jk, jk, jk, jk, jk, jk, jk, jk, jk, jk, jk, jk, jk, jk, jk, jk, jk, jk, jk, jk, jk, jk, jk, jk, jk, jk, jk, jk, jk, jk, jk, jk, jk, jk, jk, jk, jk, jk, jk, jk, jk, jk, jk, jk, jk, jk, jk, jk, jk, jk, jk, jk, jk, jk, jk, jk, jk, jk, jk, jk, jk], [some ⟨flatP l, false, 0⟩, some ⟨flatT ts, false, 0⟩, some ⟨[.slice (some ⟨0, 0, none⟩) l.length INF, .slice (some ⟨1, 0, none⟩) ts.length INF], true, 0⟩, some ⟨flatP l, true, 2⟩, some ⟨flatT ts, true, 3⟩, some ⟨[.int .i64 0, .int .i64 0], true, 0⟩, some ⟨[.int .i64 0, .int .i64 0], true, 0⟩], by omega, ?_, i + 1, rfl, by omega, rfl, rfl⟩; exact Wk.keep 7 [] (by rw [hE]; exact Nat.le_of_ble_eq_true rfl) rfl rfl (by repeat (first | exact RenT.nil | refine RenT.jk ?_ | refine RenT.val (by rfl) (by rfl) ?_)) ⟨kl rfl (flatP_scal l), kl rfl (flatT_scal ts), ki rfl, kl rfl (flatP_scal l), kl rfl (flatT_scal ts), kl rfl rfl, kl rfl rfl, trivial⟩)) | ((refine ⟨l.length - (k + 1), _, _, by omega, ?_, k + 1, rfl, by omega, rfl, rfl⟩; exact Wk.fk [1, 9, 10, 11, 12] rfl))) | ((with_reducible refine FinJ.on ?_); exact FinJ.ret (.tmp wl .nil) (jle_flat rfl)))
  · have hj : ∃ j, j < (edL ts).length ∧ ilP l ts = pt (edL ts) j ∧ ilQ l ts = 0 ∧ ilS l ts = true := ⟨k, hk, by
      unfold ilP ilQ ilS
      rw [hi, if_neg (by omega), if_neg (by omega)]
      exact ⟨rfl, rfl, decide_eq_true (by omega)⟩⟩
    obtain ⟨j, hj, q1, q2, q3⟩ := hj
    rw [q2] at hI
    rw [q3] at hrI
    clear q1
    generalize ilP l ts = IP at *
    generalize netI l ts = I0 at *
    refine PCalls.en 99 Tryz.func7 rfl (ro2p _ _ rfl rfl) rfl (fun E => ?_)
    repeat' (first | with_reducible (first | refine Then.n ?_ | refine Then.r ?_) | ((with_reducible refine AL.on ?_); first | (refine AL.gd rfl ?_; (refine AL.gs1 rfl rfl (fun hc => ?_) (fun hc => ?_) <;> (try replace hc := nc hc) <;> first | (exfalso; contradiction) | refine AL.nm ?_)) | ((first | refine AL.mv ?_ | ((with_reducible refine AL.k_load ?_); first | refine AL.g (OQ.loadN (ty := 25) (n := 2) rfl kr kr rfl) ?_ | refine AL.g (OQ.loadN (ty := 52) (n := 2) rfl kr kr rfl) ?_) | refine AL.as ?_ | ((with_reducible refine AL.k_binOp ?_); first | refine AL.g (OQ.neq rfl rfl) ?_ | refine AL.g (OQ.eql rfl rfl) ?_ | refine AL.q rfl (eql_t52 rfl rfl) ?_) | refine AL.et ?_ | refine AL.pT ?_ | ((with_reducible refine AL.k_unOp ?_); refine AL.g (OQ.not rfl) ?_)); refine AL.nm ?_) | ((((with_reducible refine AL.k_call ?_); first | refine AL.pcall (g := 12) rfl kr rfl ((by exact awake_q _)) ?_ | refine AL.pcall (g := 13) rfl kr rfl ((by exact hLi _ _ _ rfl rfl rfl rfl rfl rfl)) ?_ | refine AL.pcall (g := 37) rfl kr rfl ((by exact hI _ _ _ ⟨⟨_, rfl, rfl, .inr rfl, rfl⟩, ⟨_, rfl, rfl, rfl⟩, by decide⟩)) ?_ | refine AL.pcall (g := 29) rfl kr rfl ((by exact hrN _ rfl rfl)) ?_ | refine AL.pcall (g := 38) rfl kr rfl ((by exact hrI _ _ _ rfl rfl rfl rfl rfl rfl rfl rfl)) ?_)); refine AL.nm ?_) | ((first | ((with_reducible refine AL.k_call ?_); refine AL.acall (g := 15) rfl kr rfl ((by exact hC _ _ _ rfl rfl rfl rfl rfl rfl)) ?_) | ((with_reducible refine AL.k_alloc ?_); refine AL.w rfl (OW.alloc (ty := 52) (z := [.int .i64 0, .int .i64 0]) kr rfl) ?_) | ((with_reducible refine AL.k_store ?_); (refine AL.w rfl (OW.store (ty := 52) (n := 2) rfl wl rfl rfl kr rfl rfl (by decide) rfl (Nat.le_of_ble_eq_true rfl) (by intro r h; cases h)) ?_)) | refine AL.bx ?_); refine AL.nm ?_; refine AL.nM ?_) | refine AL.nil ?_) | ((with_reducible refine AW.on ?_); first | refine AW.seq ?_ | refine AW.skip ?_ | refine AW.ret ?_ | refine AW.region ?_ | (refine AW.conds rfl (fun hc => ?_) (fun hc => ?_) <;> (try replace hc := nc hc) <;> first | (exfalso; contradiction) | skip)) | ((with_reducible refine FinP.on ?_); (refine FinP.ret (.tmp wl .nil) ?_ rfl); (try simp only [pack, List.drop, List.take]); all_goals (rfl)))
theorem MeshLegal_q (v w : Value) (l : List Pn) (ts : List T3) (hv : SlV [Ls.blX (flatP l), Ls.blX (flatT ts)] 0 v (flatP l) l.length) (hw : SlV [Ls.blX (flatP l), Ls.blX (flatT ts)] 1 w (flatT ts) ts.length) (hl : (l.length : Int) ≤ 9223372036854775807) (ht : (ts.length : Int) ≤ 9223372036854775807) :
    PCalls Tryz.prog 7 [.agg #[v, w]] [Ls.blX (flatP l), Ls.blX (flatT ts)] (.bool true) := by
  cases hli : liB l ts with
  | false => exact MeshLegal_f v w l ts _ _ (ro_bl2 _ _) hv hw hl ht hli
  | true =>
    by_cases he : netE l ts = 0
    · have hR := netE_0.1 he
      have h0 : 0 < ts.length := hR.g.1
      have h2 := two_of hR.all h0
      have h1 := MeshLegal_y l ts hli hR
      have e1 : Ls.blX (flatP l) = some ⟨flatP l, false, 0⟩ := if_neg (fun h => by have := (flatP_nil l).1 h; omega)
      have e2 : Ls.blX (flatT ts) = some ⟨flatT ts, false, 0⟩ := if_neg (fun h => by have := (flatT_nil ts).1 h; omega)
      rw [(hv.pos (by omega)).1, (hw.pos h0).1, e1, e2]
      exact h1
    · exact MeshLegal_e v w l ts hv hw hl ht hli he
end Go.Proofs.YtmohcmghbfhdlaaGreat
end

section
namespace Go.Proofs.YtmohcmghbfhdlaaGreat.MeshLegal
open Go.ChangeShapes Go.WideShapes Go.ChangeAt Go Go.RowKit Go.Ab Go.Ls Go.Me Go.Proofs.YtmohcmghbfhdlaaGreat
set_option maxRecDepth 100000
theorem walk {W : World} (a : Option Addr) (l : List Pn) (cap : Nat) (b : Option Addr) (ts : List T3) (cat : Nat) (hcap : l.length ≤ cap) (hcm : cap ≤ maxLen) (hS : SlX W a (flatP l)) (hz : a = none → cap = 0) (hcat : ts.length ≤ cat) (hcmt : cat ≤ maxLen) (hT : SlX W b (flatT ts)) (hzt : b = none → cat = 0) :
    Calls Tryz.prog 7 #[.agg #[.slice a l.length cap, .slice b ts.length cat]] W fun e w' => e = .returned (.bool true) ∧ Below W.heap.size W w' := by
  simp only [maxLen] at hcm hcmt
  refine glueL (args := [argN 0 a b l ts]) [(a, flatP l), (b, flatT ts)] (fun x hx => ?_) ?_ (MeshLegal_q _ _ l ts (.arg rfl (flatP_nil l)) (.arg rfl (flatT_nil ts)) (by omega) (by omega))
  · rcases List.mem_cons.1 hx with rfl | hx
    · exact ⟨flatP_scal l, hS⟩
    · rw [List.mem_singleton] at hx
      subst hx
      exact ⟨flatT_scal ts, hT⟩
  · refine .tuple rfl fun i h h' => ?_
    match i, h with
    | 0, _ => exact argN_rel hS hT hcap hcat hz hzt rfl rfl
    | i + 1, h => exact absurd h (by simp)

set_option maxRecDepth 100000 in
theorem lifted (os : Os) (started : os.Started) (H : Type) (enc : TypeId × Value → H) :
    ReturnsInHanded {} Tryz.checked os 7 .any (Rows.meshLegalSpec.pre6 enc Tryz.prog Tryz.f7 Rows.meshLegalRow.domain false) (Rows.meshLegalSpec.post enc Tryz.prog Tryz.f7 false true false false) := by
  refine returnsInHanded_of_change (C := Tryz.checked) own started (by kernel_rfl) Tryz.func7
    (ChangeSpec.witness6 (enc := enc) (C := Tryz.checked) false ⟨#[], #[.agg #[.slice none 0 0, .slice none 0 0]], []⟩ 8 (by kernel_rfl) (by kernel_rfl) (by kernel_rfl) (by kernel_rfl)) ?_
  intro W base args ds gs before hval0 hW hcnd _
  have hval : ∀ (j : Nat) t v, Tryz.f7.params[j]? = some t → args[j]? = some v → Value.okWide Tryz.prog W .any base t v := hval0
  have hW' := hW
  obtain ⟨p, q, hA0, hV, rfl, hfz, hnd⟩ := hW
  have hA : DataW.TrodAll enc Tryz.prog W 0 (fun _ => true) true Tryz.f7.params.toList args.toList ds p := hA0
  rw [Tryz.params7] at hA hval
  obtain ⟨v0, vs0, d0, ds0, p0, q0, hargs, rfl, rfl, h0, r0⟩ := trodAll_cons hA
  obtain ⟨rfl, rfl, rfl⟩ := trodAll_nil r0
  obtain rfl : args = #[v0] := by cases args; simp_all
  obtain ⟨rfl, rfl⟩ := trodVars_none hV
  clear hA0 hval0
  have hlt := hW'.lt
  have g0 := h0
  obtain ⟨a0, l0, cap0, b0, t0, cat0, rfl, hcap0, hcm0, hS0, hz0, hcat0, hcmt0, hT0, hzt0⟩ := open_MN (hval 0 25 v0 rfl rfl) h0
  simp only [List.append_nil] at hW' hlt ⊢
  refine (walk a0 l0 cap0 b0 t0 cat0 hcap0 hcm0 hS0 hz0 hcat0 hcmt0 hT0 hzt0).mono fun e W' ⟨he, hb⟩ => ?_
  subst he
  have stay : ∀ (t : TypeId) v d ps (sp : Nat → Bool), Tryz.prog.readableRec t = true → t < Tryz.prog.types.size → DataW.Trod enc Tryz.prog W 0 (fun _ => true) true t v d ps → (∀ x ∈ ps, x.block < W.heap.size) → (∀ x ∈ ps, sp x.block = true) → DataW.Trod enc Tryz.prog W' 0 sp true t v d ps :=
    fun t v d ps sp hr ht h hx hs => Go.WideElems.Trod_stays laid hr ht h (fun x hxp => hb.same (hx x hxp)) hs
  exact ⟨_, rfl, post_below (pa := p0 ++ []) (pv := []) hW' (fun _ _ _ => trodAll_mk1 (shut_bool Tryz.underlying4 true)) (fun sp hs => (trodAll_cons_mk (stay 25 _ _ _ sp (by kernel_rfl) (of_decide_eq_true (by kernel_rfl)) g0 (fun x hx => hlt x (by simp [hx])) (fun x hx => hs x (by simp [hx]))) (trodAll_mk0))) (fun _ _ => rfl) (by simp)
    hb (ok_one (by kernel_rfl) rfl (okWide_bool_mk Tryz.underlying4 true))⟩

theorem over : Rows.meshLegalRow.holds Tryz.pinned (OpenSpec.ofChange Rows.meshLegalSpec) :=
  OpenClaim.holds_of_wide 7 Tryz.f7 rfl rfl rfl rfl rfl rfl rfl ⟨rfl, rfl, rfl, rfl, rfl⟩ rfl rfl rfl rfl rfl (by kernel_rfl) Tryz.func7 (by kernel_rfl)
    (of_decide_eq_true (by kernel_rfl)) (by unfold Func.isWrapper; first | (rw [if_pos (by decide +kernel)]; kernel_rfl) | (rw [if_neg (by decide +kernel)]; exact ⟨rfl, rfl⟩))
    (fun os started H enc _ => lifted os started H enc)

theorem proved : Rows.MeshLegalSaid := over
#print axioms proved
end Go.Proofs.YtmohcmghbfhdlaaGreat.MeshLegal
end
