/- MeshCovers: a right net of n points, h of which lie on the border, has 2 n - h - 2 triangles and 3 n - h - 3 edges. -/
import Derived.Test.YtmohcmghbfhdlaaQc
import Derived.Test.YtmohcmghbfhdlaaRows
import Derived.Test.YtmohcmghbfhdlaaQl
import Derived.Test.YtmohcmghbfhdlaaQm
set_option linter.unusedSimpArgs false
set_option linter.unusedVariables false
section
namespace Go.Proofs.Ytmohcmghbfhdlaa
open Go Go.RowKit Go.Ab Go.Me
set_option maxRecDepth 100000
set_option maxHeartbeats 4000000
attribute [local irreducible] OQ OW AL AW AD AF SW
theorem MeshCovers_f (v w : Value) (l : List Pn) (ts : List T3) (o1 o2 : Option Blk) (hr : Mem.ro [o1, o2]) (hv : SlV [o1, o2] 0 v (flatP l) l.length) (hw : SlV [o1, o2] 1 w (flatT ts) ts.length) (hl : (l.length : Int) ≤ 9223372036854775807) (ht : (ts.length : Int) ≤ 9223372036854775807) (he : liB l ts = false) :
    PCalls Try.prog 4 [.agg #[v, w]] [o1, o2] (.bool true) := by
  have hLi := fun (m : Mem) (e0 : m.at 0 = Mem.at [o1, o2] 0) (e1 : m.at 1 = Mem.at [o1, o2] 1) => Light_g (m := m) (hv.of e0) (hw.of e1) hl ht
  rw [he] at hLi
  refine PCalls.enter (t := [.agg #[v, w], undef, undef, undef, undef, undef, undef, undef, undef, undef, undef, undef, undef, undef, undef, undef, undef, undef, undef, undef, undef, undef, undef, undef, undef, undef, undef, undef, undef, undef, undef, undef, undef, undef, undef, undef, undef, undef, undef, undef, undef, undef, undef, undef, undef, undef, undef, undef, undef, undef, undef, undef, undef, undef, undef, undef, undef, undef, undef, undef, undef, undef, undef, undef, undef, undef, undef, undef, undef, undef, undef, undef, undef, undef, undef, undef, undef, undef, undef, undef, undef, undef, undef, undef, undef, undef, undef, undef, undef, undef, undef, undef, undef, undef]) Try.func4 rfl (hr) rfl fun E => ?_
  repeat' (first
    | with_reducible (first | refine Then.n ?_ | refine Then.r ?_ | refine Then.x ?_ | refine InB.n ?_ | refine InB.r ?_ | refine InB.hit ?_ | refine InB.miss (by decide) ?_)
    | ((with_reducible refine AL.on ?_); first
      | (refine AL.gd rfl ?_; first | (refine AL.gskip rfl rfl ?_; (refine AL.nm ?_)) | (refine AL.gs1 rfl rfl (fun hc => ?_) (fun hc => ?_) <;> (try replace hc := nc hc) <;> first | (exfalso; first | contradiction | (first | omega | (simp at *; done)); done) | (refine AL.nm ?_)) | (refine AL.gs0 rfl rfl (fun hc => ?_) (fun hc => ?_) <;> (try replace hc := nc hc) <;> first | (exfalso; first | contradiction | (first | omega | (simp at *; done)); done) | (refine AL.nm ?_)))
      | ((first | ((with_reducible refine AL.k_move ?_); first | (refine AL.q rfl (OQ.move wl) ?_)) | ((with_reducible refine AL.k_assign ?_); first | (refine AL.q rfl (OQ.assign wl) ?_)) | ((with_reducible refine AL.k_binOp ?_); first | refine AL.q rfl (OQ.neq rfl rfl) ?_ | refine AL.q rfl (OQ.lss rfl rfl) ?_ | refine AL.q rfl (OQ.eql rfl rfl) ?_ | refine AL.q rfl (OQ.addi rfl rfl (by omega)) ?_ | refine AL.q rfl (OQ.add rfl rfl) ?_ | refine AL.q rfl (OQ.muli rfl rfl (by omega)) ?_ | refine AL.q rfl (OQ.mul rfl rfl) ?_ | refine AL.q rfl (OQ.subi rfl rfl (by omega)) ?_ | refine AL.q rfl (OQ.sub rfl rfl) ?_) | ((with_reducible refine AL.k_call ?_); first | refine AL.q rfl (OQ.lenS (xt := 42) (r := (none, 2, true)) rfl kr) ?_ | refine AL.q rfl (OQ.lenS (xt := 22) (r := (none, 2, true)) rfl kr) ?_ | refine AL.q rfl (OQ.lenS (xt := 36) (r := (none, 3, true)) rfl kr) ?_) | ((with_reducible refine AL.k_load ?_); first | refine AL.q rfl (OQ.loadN (ty := 38) (n := 2) rfl kr kr rfl) ?_ | (refine AL.q rfl (OQ.load1 (ty := 3) rfl kr wl) ?_) | (refine AL.q rfl (OQ.load1 (ty := 22) rfl kr wl) ?_) | (refine AL.q rfl (OQ.load1 (ty := 36) rfl kr wl) ?_)) | ((with_reducible refine AL.k_extract ?_); first | refine AL.q rfl (OQ.extract rfl rfl) ?_) | ((with_reducible refine AL.k_pick ?_); first | (refine AL.q rfl (OQ.pickT rfl (by with_reducible rfl) wl) ?_) | (refine AL.q rfl (OQ.pickF rfl (by with_reducible rfl) wl) ?_)) | ((with_reducible refine AL.k_indexAddr ?_); first | refine AL.q rfl (OQ.idxAddr (ty := 42) (z := 2) (g := true) rfl rfl kr (by omega) (by omega)) ?_ | refine AL.q rfl (OQ.idxPtr (ty := 45) (n := 1) (l := 2) (g := false) rfl rfl kr (by omega) (by omega)) ?_) | ((with_reducible refine AL.k_unOp ?_); first | refine AL.q rfl (OQ.not rfl) ?_) | ((with_reducible refine AL.k_fieldAddr ?_); first | refine AL.q rfl (OQ.fieldA (ty := 38) (i := 0) (n := 1) (off := 0) (g := false) rfl kr (by decide)) ?_ | refine AL.q rfl (OQ.fieldA (ty := 38) (i := 1) (n := 1) (off := 1) (g := false) rfl kr (by decide)) ?_)); (refine AL.nm ?_))
      | ((first | first | refine AL.pcall (g := 6) rfl kr rfl ((by exact awake_q _)) ?_ | refine AL.pcall (g := 14) rfl kr rfl ((by exact hLi _ rfl rfl)) ?_ | refine AL.pcall (g := 16) rfl kr rfl (rfl) ?_ | refine AL.pcall (g := 15) rfl kr rfl (rfl) ?_ | refine AL.pcall (g := 17) rfl kr rfl (rfl) ?_ | refine AL.pcall (g := 18) rfl kr rfl (rfl) ?_); (refine AL.nm ?_))
      | ((first | first | (refine AL.w rfl (OW.box wl (by intro r h; cases h)) ?_)); (refine AL.nm ?_); (refine AL.nM ?_))
      | (refine AL.bs rfl (fun hc => ?_) (fun hc => ?_) <;> (fail_if_success (with_reducible exact lit_no hc)) <;> (try replace hc := nc hc) <;> first | (exfalso; first | contradiction | (first | omega | (simp at *; done)); done) | (refine AL.nm ?_))
      | refine AL.nil ?_)
    | ((with_reducible refine AW.on ?_); first
      | refine AW.seq ?_
      | refine AW.skip ?_
      | refine AW.exit ?_
      | refine AW.ret ?_
      | refine AW.block ?_
      | (refine AW.region (id := 5) ?_; exfalso; first | omega | (simp at *; done); done)
      | refine AW.region ?_
      | (refine AW.conds rfl (fun hc => ?_) (fun hc => ?_) <;> (try replace hc := nc hc) <;> first | (exfalso; first | contradiction | (first | omega | (simp at *; done)); done) | skip))
    | ((with_reducible refine FinP.on ?_); (first | refine FinP.ret (.tmp wl .nil) ?_ rfl | refine FinP.end (.tmp wl .nil) ?_ rfl); (try simp only [pack, List.drop, List.take]); all_goals (rfl)))
theorem MeshCovers_e (v w : Value) (l : List Pn) (ts : List T3) (o1 o2 : Option Blk) (hr : Mem.ro [o1, o2]) (hv : SlV [o1, o2] 0 v (flatP l) l.length) (hw : SlV [o1, o2] 1 w (flatT ts) ts.length) (hl : (l.length : Int) ≤ 9223372036854775807) (ht : (ts.length : Int) ≤ 9223372036854775807) (hli : liB l ts = true) (he : netE l ts ≠ 0) :
    PCalls Try.prog 4 [.agg #[v, w]] [o1, o2] (.bool true) := by
  obtain ⟨l1, l2⟩ := liB_le hli
  have hLi := fun (m : Mem) (e0 : m.at 0 = Mem.at [o1, o2] 0) (e1 : m.at 1 = Mem.at [o1, o2] 1) => Light_g (m := m) (hv.of e0) (hw.of e1) hl ht
  rw [hli] at hLi
  have hC := fun (m : Mem) (e0 : m.at 0 = Mem.at [o1, o2] 0) (e1 : m.at 1 = Mem.at [o1, o2] 1) => Copy_g (m := m) (by decide) (hv.of e0) (hw.of e1) (by omega) (by omega)
  have hN := fun (m : Mem) (bP bT : Nat) (c c2 : Nat) (hA : ArgN m bP bT l ts) => CheckNet_q (c := c) (c2 := c2) l ts hA rfl rfl (by omega)
  generalize netE l ts = E0 at *
  generalize netI l ts = I0 at *
  refine PCalls.enter (t := [.agg #[v, w], undef, undef, undef, undef, undef, undef, undef, undef, undef, undef, undef, undef, undef, undef, undef, undef, undef, undef, undef, undef, undef, undef, undef, undef, undef, undef, undef, undef, undef, undef, undef, undef, undef, undef, undef, undef, undef, undef, undef, undef, undef, undef, undef, undef, undef, undef, undef, undef, undef, undef, undef, undef, undef, undef, undef, undef, undef, undef, undef, undef, undef, undef, undef, undef, undef, undef, undef, undef, undef, undef, undef, undef, undef, undef, undef, undef, undef, undef, undef, undef, undef, undef, undef, undef, undef, undef, undef, undef, undef, undef, undef, undef, undef]) Try.func4 rfl (hr) rfl fun E => ?_
  repeat' (first
    | with_reducible (first | refine Then.n ?_ | refine Then.r ?_ | refine Then.x ?_ | refine InB.n ?_ | refine InB.r ?_ | refine InB.hit ?_ | refine InB.miss (by decide) ?_)
    | ((with_reducible refine AL.on ?_); first
      | (refine AL.gd rfl ?_; first | (refine AL.gskip rfl rfl ?_; (refine AL.nm ?_)) | (refine AL.gs1 rfl rfl (fun hc => ?_) (fun hc => ?_) <;> (try replace hc := nc hc) <;> first | (exfalso; first | contradiction | (first | omega | (simp at *; done)); done) | (refine AL.nm ?_)) | (refine AL.gs0 rfl rfl (fun hc => ?_) (fun hc => ?_) <;> (try replace hc := nc hc) <;> first | (exfalso; first | contradiction | (first | omega | (simp at *; done)); done) | (refine AL.nm ?_)))
      | ((first | ((with_reducible refine AL.k_move ?_); first | (refine AL.q rfl (OQ.move wl) ?_)) | ((with_reducible refine AL.k_assign ?_); first | (refine AL.q rfl (OQ.assign wl) ?_)) | ((with_reducible refine AL.k_binOp ?_); first | refine AL.q rfl (OQ.neq rfl rfl) ?_ | refine AL.q rfl (OQ.lss rfl rfl) ?_ | refine AL.q rfl (OQ.eql rfl rfl) ?_ | refine AL.q rfl (OQ.addi rfl rfl (by omega)) ?_ | refine AL.q rfl (OQ.add rfl rfl) ?_ | refine AL.q rfl (OQ.muli rfl rfl (by omega)) ?_ | refine AL.q rfl (OQ.mul rfl rfl) ?_ | refine AL.q rfl (OQ.subi rfl rfl (by omega)) ?_ | refine AL.q rfl (OQ.sub rfl rfl) ?_) | ((with_reducible refine AL.k_call ?_); first | refine AL.q rfl (OQ.lenS (xt := 42) (r := (none, 2, true)) rfl kr) ?_ | refine AL.q rfl (OQ.lenS (xt := 22) (r := (none, 2, true)) rfl kr) ?_ | refine AL.q rfl (OQ.lenS (xt := 36) (r := (none, 3, true)) rfl kr) ?_) | ((with_reducible refine AL.k_load ?_); first | refine AL.q rfl (OQ.loadN (ty := 38) (n := 2) rfl kr kr rfl) ?_ | (refine AL.q rfl (OQ.load1 (ty := 3) rfl kr wl) ?_) | (refine AL.q rfl (OQ.load1 (ty := 22) rfl kr wl) ?_) | (refine AL.q rfl (OQ.load1 (ty := 36) rfl kr wl) ?_)) | ((with_reducible refine AL.k_extract ?_); first | refine AL.q rfl (OQ.extract rfl rfl) ?_) | ((with_reducible refine AL.k_pick ?_); first | (refine AL.q rfl (OQ.pickT rfl (by with_reducible rfl) wl) ?_) | (refine AL.q rfl (OQ.pickF rfl (by with_reducible rfl) wl) ?_)) | ((with_reducible refine AL.k_indexAddr ?_); first | refine AL.q rfl (OQ.idxAddr (ty := 42) (z := 2) (g := true) rfl rfl kr (by omega) (by omega)) ?_ | refine AL.q rfl (OQ.idxPtr (ty := 45) (n := 1) (l := 2) (g := false) rfl rfl kr (by omega) (by omega)) ?_) | ((with_reducible refine AL.k_unOp ?_); first | refine AL.q rfl (OQ.not rfl) ?_) | ((with_reducible refine AL.k_fieldAddr ?_); first | refine AL.q rfl (OQ.fieldA (ty := 38) (i := 0) (n := 1) (off := 0) (g := false) rfl kr (by decide)) ?_ | refine AL.q rfl (OQ.fieldA (ty := 38) (i := 1) (n := 1) (off := 1) (g := false) rfl kr (by decide)) ?_)); (refine AL.nm ?_))
      | ((first | first | refine AL.pcall (g := 6) rfl kr rfl ((by exact awake_q _)) ?_ | refine AL.pcall (g := 14) rfl kr rfl ((by exact hLi _ rfl rfl)) ?_ | refine AL.pcall (g := 15) rfl kr rfl ((by exact hN _ _ _ _ _ ⟨⟨_, rfl, rfl, .inr rfl, rfl⟩, ⟨_, rfl, rfl, rfl⟩, by decide⟩)) ?_ | refine AL.pcall (g := 17) rfl kr rfl (rfl) ?_ | refine AL.pcall (g := 18) rfl kr rfl (rfl) ?_); (refine AL.nm ?_))
      | ((first | ((with_reducible refine AL.k_call ?_); first | refine AL.acall (g := 16) rfl kr rfl ((by exact hC _ rfl rfl)) ?_) | ((with_reducible refine AL.k_box ?_); first | (refine AL.w rfl (OW.box wl (by intro r h; cases h)) ?_))); (refine AL.nm ?_); (refine AL.nM ?_))
      | (refine AL.bs rfl (fun hc => ?_) (fun hc => ?_) <;> (fail_if_success (with_reducible exact lit_no hc)) <;> (try replace hc := nc hc) <;> first | (exfalso; first | contradiction | (first | omega | (simp at *; done)); done) | (refine AL.nm ?_))
      | refine AL.nil ?_)
    | ((with_reducible refine AW.on ?_); first
      | refine AW.seq ?_
      | refine AW.skip ?_
      | refine AW.exit ?_
      | refine AW.ret ?_
      | refine AW.block ?_
      | (refine AW.region (id := 8) ?_; exfalso; first | omega | (simp at *; done); done)
      | refine AW.region ?_
      | (refine AW.conds rfl (fun hc => ?_) (fun hc => ?_) <;> (try replace hc := nc hc) <;> first | (exfalso; first | contradiction | (first | omega | (simp at *; done)); done) | skip))
    | ((with_reducible refine FinP.on ?_); (first | refine FinP.ret (.tmp wl .nil) ?_ rfl | refine FinP.end (.tmp wl .nil) ?_ rfl); (try simp only [pack, List.drop, List.take]); all_goals (rfl)))
theorem MeshCovers_y (l : List Pn) (ts : List T3) (hli : liB l ts = true) (hR : NetR l ts) :
    PCalls Try.prog 4 [.agg #[.slice (some ⟨0, 0, none⟩) l.length INF, .slice (some ⟨1, 0, none⟩) ts.length INF]] [some ⟨flatP l, false, 0⟩, some ⟨flatT ts, false, 0⟩] (.bool true) := by
  obtain ⟨l1, l2⟩ := liB_le hli
  have hpos := edL_pos hR
  have h0 : 0 < ts.length := hR.g.1
  have h2 := two_of hR.all h0
  have hle := edL_le ts
  have h80 := hR.le
  have h40 := (cp_ok hR.cp).1
  have hcv := hR.cov
  have hLi := fun (m : Mem) (A B : Blk) (a1 : m.at 0 = some A) (a2 : A.cells = flatP l) (b1 : m.at 1 = some B) (b2 : B.cells = flatT ts) (a3 : A.obj = Ob.plain) (b3 : B.obj = Ob.plain) => Light_g (m := m) (i := 0) (j := 1) (.blk A (by omega) rfl a1 a2 a3) (.blk B h0 rfl b1 b2 b3) (by omega) (by omega)
  rw [hli] at hLi
  have hC := fun (m : Mem) (A B : Blk) (a1 : m.at 0 = some A) (a2 : A.cells = flatP l) (b1 : m.at 1 = some B) (b2 : B.cells = flatT ts) (a3 : A.obj = Ob.plain) (b3 : B.obj = Ob.plain) => Copy_y (m := m) (i := 0) (j := 1) (by decide) (by omega) h0 (by omega) (by omega) a1 a2 b1 b2 a3 b3
  have hN := fun (m : Mem) (bP bT : Nat) (hA : ArgN m bP bT l ts) => CheckNet_q (c := INF) (c2 := INF) l ts hA rfl rfl (by omega)
  have hE := fun (m : Mem) (bP bT : Nat) (hA : ArgN m bP bT l ts) => Edges_q (c := INF) (c2 := INF) l ts hA rfl rfl hR
  have hS := fun (m : Mem) (bP bT : Nat) (hA : ArgN m bP bT l ts) => Sides_q (c := INF) (c2 := INF) l ts hA rfl rfl hR
  rw [netE_0.2 hR] at hN
  have hps : ∀ k, k < (sdL ts).length → (flatP (sdL ts))[k * 2]? = some (.int .i64 (pt (sdL ts) k).x) ∧ (flatP (sdL ts))[k * 2 + 1]? = some (.int .i64 (pt (sdL ts) k).y) := fun k hk => flatP_get (sdL ts) k hk
  have hsl := sdL_len ts
  have hk0 := hcK_bd (sdL ts)
  have hh1 : ∀ k, ((pt (sdL ts) k).x = -1 ∨ (pt (sdL ts) k).y = -1) → hcK (sdL ts) (k + 1) = hcK (sdL ts) k + 1 := fun k h => by
    show hcK (sdL ts) k + _ = _
    rw [if_pos h]
  have hh2 : ∀ k, (pt (sdL ts) k).x ≠ -1 → (pt (sdL ts) k).y ≠ -1 → hcK (sdL ts) (k + 1) = hcK (sdL ts) k := fun k h h3 => by
    show hcK (sdL ts) k + _ = _
    rw [if_neg (fun hh => hh.elim h h3), Int.add_zero]
  have hz : hcK (sdL ts) 0 = 0 := rfl
  rw [hsl] at hcv hps
  generalize hcK (sdL ts) = HK at *
  refine PCalls.enter (t := [.agg #[.slice (some ⟨0, 0, none⟩) l.length INF, .slice (some ⟨1, 0, none⟩) ts.length INF], undef, undef, undef, undef, undef, undef, undef, undef, undef, undef, undef, undef, undef, undef, undef, undef, undef, undef, undef, undef, undef, undef, undef, undef, undef, undef, undef, undef, undef, undef, undef, undef, undef, undef, undef, undef, undef, undef, undef, undef, undef, undef, undef, undef, undef, undef, undef, undef, undef, undef, undef, undef, undef, undef, undef, undef, undef, undef, undef, undef, undef, undef, undef, undef, undef, undef, undef, undef, undef, undef, undef, undef, undef, undef, undef, undef, undef, undef, undef, undef, undef, undef, undef, undef, undef, undef, undef, undef, undef, undef, undef, undef, undef]) Try.func4 rfl (ro2p _ _ rfl rfl) rfl fun E => ?_
  repeat' (first
    | with_reducible (first | refine Then.n ?_ | refine Then.r ?_ | refine Then.x ?_ | refine InB.n ?_ | refine InB.r ?_ | refine InB.hit ?_ | refine InB.miss (by decide) ?_)
    | ((with_reducible refine AL.on ?_); first
      | (refine AL.gd rfl ?_; first | (refine AL.gskip rfl rfl ?_; (refine AL.nm ?_)) | (refine AL.gs1 rfl rfl (fun hc => ?_) (fun hc => ?_) <;> (try replace hc := nc hc) <;> first | (exfalso; first | contradiction | (first | omega | (simp at hc; omega)); done) | (refine AL.nm ?_)) | (refine AL.gs0 rfl rfl (fun hc => ?_) (fun hc => ?_) <;> (try replace hc := nc hc) <;> first | (exfalso; first | contradiction | (first | omega | (simp at hc; omega)); done) | (refine AL.nm ?_)))
      | ((first | ((with_reducible refine AL.k_move ?_); first | (refine AL.q rfl (OQ.move wl) ?_)) | ((with_reducible refine AL.k_assign ?_); first | (refine AL.q rfl (OQ.assign wl) ?_)) | ((with_reducible refine AL.k_binOp ?_); first | refine AL.q rfl (OQ.neq rfl rfl) ?_ | refine AL.q rfl (OQ.lss rfl rfl) ?_ | refine AL.q rfl (OQ.eql rfl rfl) ?_ | refine AL.q rfl (OQ.addi rfl rfl (by omega)) ?_ | refine AL.q rfl (OQ.add rfl rfl) ?_ | refine AL.q rfl (OQ.muli rfl rfl (by omega)) ?_ | refine AL.q rfl (OQ.mul rfl rfl) ?_ | refine AL.q rfl (OQ.subi rfl rfl (by omega)) ?_ | refine AL.q rfl (OQ.sub rfl rfl) ?_) | ((with_reducible refine AL.k_call ?_); first | refine AL.q rfl (OQ.lenS (xt := 42) (r := (none, 2, true)) rfl kr) ?_ | refine AL.q rfl (OQ.lenS (xt := 22) (r := (none, 2, true)) rfl kr) ?_ | refine AL.q rfl (OQ.lenS (xt := 36) (r := (none, 3, true)) rfl kr) ?_) | ((with_reducible refine AL.k_load ?_); first | refine AL.q rfl (OQ.loadN (ty := 38) (n := 2) rfl kr kr (by first | (first | exact (hps k (by omega)).1 | exact (hps k (by omega)).2) | rfl)) ?_ | (refine AL.q rfl (OQ.load1 (ty := 3) rfl kr (by first | (first | exact (hps k (by omega)).1 | exact (hps k (by omega)).2) | (conv => lhs; whnf))) ?_) | (refine AL.q rfl (OQ.load1 (ty := 22) rfl kr (by first | (first | exact (hps k (by omega)).1 | exact (hps k (by omega)).2) | (conv => lhs; whnf))) ?_) | (refine AL.q rfl (OQ.load1 (ty := 36) rfl kr (by first | (first | exact (hps k (by omega)).1 | exact (hps k (by omega)).2) | (conv => lhs; whnf))) ?_)) | ((with_reducible refine AL.k_extract ?_); first | refine AL.q rfl (OQ.extract rfl rfl) ?_) | ((with_reducible refine AL.k_pick ?_); first | (refine AL.q rfl (OQ.pickT rfl (by with_reducible rfl) wl) ?_) | (refine AL.q rfl (OQ.pickF rfl (by with_reducible rfl) wl) ?_)) | ((with_reducible refine AL.k_unOp ?_); first | refine AL.q rfl (OQ.not rfl) ?_)); (refine AL.nm ?_))
      | ((first | ((with_reducible refine AL.k_call ?_); first | refine AL.pcall (g := 6) rfl kr rfl ((by exact awake_q _)) ?_ | refine AL.pcall (g := 14) rfl kr rfl ((by exact hLi _ _ _ rfl rfl rfl rfl rfl rfl)) ?_ | refine AL.pcall (g := 15) rfl kr rfl ((by exact hN _ _ _ ⟨⟨_, rfl, rfl, .inr rfl, rfl⟩, ⟨_, rfl, rfl, rfl⟩, by decide⟩)) ?_) | ((with_reducible refine AL.k_indexAddr ?_); first | refine AL.q rfl (OQ.idxAddr (ty := 42) (z := 2) (g := true) rfl rfl kr (by first | omega | decide) (by first | omega | decide)) ?_ | refine AL.q rfl (OQ.idxPtr (ty := 45) (n := 1) (l := 2) (g := false) rfl rfl kr (by first | omega | decide) (by first | omega | decide)) ?_) | ((with_reducible refine AL.k_fieldAddr ?_); first | refine AL.q rfl (OQ.fieldA (ty := 38) (i := 0) (n := 1) (off := 0) (g := false) rfl kr (by decide)) ?_ | refine AL.q rfl (OQ.fieldA (ty := 38) (i := 1) (n := 1) (off := 1) (g := false) rfl kr (by decide)) ?_)); (refine AL.nm ?_))
      | ((first | ((with_reducible refine AL.k_call ?_); first | refine AL.acall (g := 16) rfl kr rfl ((by exact hC _ _ _ rfl rfl rfl rfl rfl rfl)) ?_ | refine AL.acall (g := 17) rfl kr rfl ((by exact hE _ _ _ ⟨⟨_, rfl, rfl, .inr rfl, rfl⟩, ⟨_, rfl, rfl, rfl⟩, by decide⟩)) ?_ | refine AL.acall (g := 18) rfl kr rfl ((by exact hS _ _ _ ⟨⟨_, rfl, rfl, .inr rfl, rfl⟩, ⟨_, rfl, rfl, rfl⟩, by decide⟩)) ?_) | ((with_reducible refine AL.k_box ?_); first | (refine AL.w rfl (OW.box wl (by intro r h; cases h)) ?_))); (refine AL.nm ?_); (refine AL.nM ?_))
      | (refine AL.bs rfl (fun hc => ?_) (fun hc => ?_) <;> (fail_if_success (with_reducible exact lit_no hc)) <;> (try replace hc := nc hc) <;> first | (exfalso; first | contradiction | (first | omega | (simp at hc; omega)); done) | (refine AL.nm ?_))
      | refine AL.nil ?_)
    | ((with_reducible refine AW.on ?_); first
      | refine AW.seq ?_
      | refine AW.skip ?_
      | refine AW.exit ?_
      | refine AW.ret ?_
      | ((refine AW.block (id := 0) ?_); (refine AW.fk [1, 5, 7, 9, 10] ?_); (refine AW.loop (fun n' t' m => ∃ k : Nat, n' = (edL ts).length - k ∧ k ≤ (edL ts).length ∧ t' = [jk, .pointer (some ⟨2, 0, none⟩), jk, jk, jk, .slice (some ⟨7, 0, none⟩) ((edL ts).length) INF, jk, .slice (some ⟨10, 0, none⟩) ((sdL ts).length) INF, jk, .int .i64 (HK k), .int .i64 (k), jk, jk, jk, jk, jk, jk, jk, jk, jk, jk, jk, jk, jk, jk, jk, jk, jk, jk, jk, jk, jk, jk, jk, jk, jk, jk, jk, jk, jk, jk, jk, jk, jk, jk, jk, jk, jk, jk, jk, jk, jk, jk, jk, jk, jk, jk, jk, jk, jk, jk, jk, jk, jk, jk, jk, jk, jk, jk, jk, jk, jk, jk, jk, jk, jk, jk, jk, jk, jk, jk, jk, jk, jk, jk, jk, jk, jk, jk, jk, jk, jk, jk, jk] ∧ m = [some ⟨flatP l, false, 0⟩, some ⟨flatT ts, false, 0⟩, some ⟨[.slice (some ⟨0, 0, none⟩) l.length INF, .slice (some ⟨1, 0, none⟩) ts.length INF], true, 0⟩, some ⟨flatP l, true, 2⟩, some ⟨flatT ts, true, 3⟩, some ⟨flatP l, true, 2⟩, some ⟨flatT ts, true, 3⟩, some ⟨flatP (edL ts), true, 2⟩, some ⟨flatP l, true, 2⟩, some ⟨flatT ts, true, 3⟩, some ⟨flatP (sdL ts), true, 2⟩]) ((edL ts).length) (by exact ⟨0, rfl, Nat.zero_le _, by rw [hz]; rfl, rfl⟩) ?_); (rintro n' t' m ⟨k, rfl, hk, rfl, rfl⟩))
      | refine AW.block ?_
      | (refine AW.region (id := 16) ?_; ((have qk := hk0 k)))
      | (refine AW.region (id := 19) ?_; ((obtain rfl : k = (edL ts).length := (by omega); have qk := hk0 (edL ts).length)))
      | refine AW.region ?_
      | (refine AW.conds rfl (fun hc => ?_) (fun hc => ?_) <;> (try replace hc := nc hc) <;> first | (exfalso; first | contradiction | (first | omega | (simp at hc; omega)); done) | skip))
    | ((with_reducible refine ex_on ?_); ((first | rw [← hh1 k (by first | exact .inl ‹_› | exact .inr ‹_›)] | rw [← hh2 k ‹_› ‹_›]); refine ⟨(edL ts).length - (k + 1), [jk, .pointer (some ⟨2, 0, none⟩), jk, jk, jk, .slice (some ⟨7, 0, none⟩) ((edL ts).length) INF, jk, .slice (some ⟨10, 0, none⟩) ((sdL ts).length) INF, jk, .int .i64 (HK (k + 1)), .int .i64 (k + 1), jk, jk, jk, jk, jk, jk, jk, jk, jk, jk, jk, jk, jk, jk, jk, jk, jk, jk, jk, jk, jk, jk, jk, jk, jk, jk, jk, jk, jk, jk, jk, jk, jk, jk, jk, jk, jk, jk, jk, jk, jk, jk, jk, jk, jk, jk, jk, jk, jk, jk, jk, jk, jk, jk, jk, jk, jk, jk, jk, jk, jk, jk, jk, jk, jk, jk, jk, jk, jk, jk, jk, jk, jk, jk, jk, jk, jk, jk, jk, jk, jk, jk, jk], _, by omega, ?_, k + 1, rfl, by omega, rfl, rfl⟩; exact Wk.fk [1, 5, 7, 9, 10] rfl))
    | ((with_reducible refine FinP.on ?_); (first | refine FinP.ret (.tmp wl .nil) ?_ rfl | refine FinP.end (.tmp wl .nil) ?_ rfl); (try simp only [pack, List.drop, List.take]); all_goals (first | rfl | (congr 1; simp; omega) | (congr 1; omega) | (rw [decide_eq_true (by omega)]))))
theorem MeshCovers_q (v w : Value) (l : List Pn) (ts : List T3) (hv : SlV [Ls.blX (flatP l), Ls.blX (flatT ts)] 0 v (flatP l) l.length) (hw : SlV [Ls.blX (flatP l), Ls.blX (flatT ts)] 1 w (flatT ts) ts.length) (hl : (l.length : Int) ≤ 9223372036854775807) (ht : (ts.length : Int) ≤ 9223372036854775807) :
    PCalls Try.prog 4 [.agg #[v, w]] [Ls.blX (flatP l), Ls.blX (flatT ts)] (.bool true) := by
  cases hli : liB l ts with
  | false => exact MeshCovers_f v w l ts _ _ (ro_bl2 _ _) hv hw hl ht hli
  | true =>
    by_cases he : netE l ts = 0
    · have hR := netE_0.1 he
      have h0 : 0 < ts.length := hR.g.1
      have h2 := two_of hR.all h0
      have h1 := MeshCovers_y l ts hli hR
      have e1 : Ls.blX (flatP l) = some ⟨flatP l, false, 0⟩ := if_neg (fun h => by have := (flatP_nil l).1 h; omega)
      have e2 : Ls.blX (flatT ts) = some ⟨flatT ts, false, 0⟩ := if_neg (fun h => by have := (flatT_nil ts).1 h; omega)
      rw [(hv.pos (by omega)).1, (hw.pos h0).1, e1, e2]
      exact h1
    · exact MeshCovers_e v w l ts _ _ (ro_bl2 _ _) hv hw hl ht hli he
end Go.Proofs.Ytmohcmghbfhdlaa
end

section
namespace Go.Proofs.Ytmohcmghbfhdlaa.MeshCovers
open Go.ChangeShapes Go.WideShapes Go.ChangeAt Go Go.RowKit Go.Ab Go.Ls Go.Me Go.Proofs.Ytmohcmghbfhdlaa
set_option maxRecDepth 100000
theorem walk {W : World} (a : Option Addr) (l : List Pn) (cap : Nat) (b : Option Addr) (ts : List T3) (cat : Nat) (hcap : l.length ≤ cap) (hcm : cap ≤ maxLen) (hS : SlX W a (flatP l)) (hz : a = none → cap = 0) (hcat : ts.length ≤ cat) (hcmt : cat ≤ maxLen) (hT : SlX W b (flatT ts)) (hzt : b = none → cat = 0) :
    Calls Try.prog 4 #[.agg #[.slice a l.length cap, .slice b ts.length cat]] W fun e w' => e = .returned (.bool true) ∧ Below W.heap.size W w' := by
  simp only [maxLen] at hcm hcmt
  refine glueL (args := [argN 0 a b l ts]) [(a, flatP l), (b, flatT ts)] (fun x hx => ?_) ?_ (MeshCovers_q _ _ l ts (.arg rfl (flatP_nil l)) (.arg rfl (flatT_nil ts)) (by omega) (by omega))
  · rcases List.mem_cons.1 hx with rfl | hx
    · exact ⟨flatP_scal l, hS⟩
    · rw [List.mem_singleton] at hx
      subst hx
      exact ⟨flatT_scal ts, hT⟩
  · refine .tuple rfl fun i h h' => ?_
    match i, h with
    | 0, _ => exact argN_rel hS hT hcap hcat hz hzt rfl rfl
    | i + 1, h => simp at h

set_option maxRecDepth 100000 in
theorem lifted (os : Os) (started : os.Started) (H : Type) (enc : TypeId × Value → H) :
    ReturnsInHanded {} Try.checked os 4 .any (Rows.meshCoversSpec.pre6 enc Try.prog Try.f4 Rows.meshCoversRow.domain false) (Rows.meshCoversSpec.post enc Try.prog Try.f4 false true false false) := by
  refine returnsInHanded_of_change (C := Try.checked) own started (by kernel_rfl) Try.func4
    (ChangeSpec.witness6 (enc := enc) (C := Try.checked) false ⟨#[], #[.agg #[.slice none 0 0, .slice none 0 0]], []⟩ 8 (by kernel_rfl) (by kernel_rfl) (by kernel_rfl) (by kernel_rfl)) ?_
  intro W base args ds gs before hval0 hW hcnd _
  have hval : ∀ (j : Nat) t v, Try.f4.params[j]? = some t → args[j]? = some v → Value.okWide Try.prog W .any base t v := hval0
  have hW' := hW
  obtain ⟨p, q, hA0, hV, rfl, hfz, hnd⟩ := hW
  have hA : DataW.TrodAll enc Try.prog W 0 (fun _ => true) true Try.f4.params.toList args.toList ds p := hA0
  rw [Try.params4] at hA hval
  obtain ⟨v0, vs0, d0, ds0, p0, q0, hargs, rfl, rfl, h0, r0⟩ := trodAll_cons hA
  obtain ⟨rfl, rfl, rfl⟩ := trodAll_nil r0
  obtain rfl : args = #[v0] := by cases args; simp_all
  obtain ⟨rfl, rfl⟩ := trodVars_none hV
  clear hA0 hval0
  have hlt := hW'.lt
  have g0 := h0
  obtain ⟨a0, l0, cap0, b0, t0, cat0, rfl, hcap0, hcm0, hS0, hz0, hcat0, hcmt0, hT0, hzt0⟩ := open_MN (hval 0 38 v0 rfl rfl) h0
  simp only [List.append_nil] at hW' hlt ⊢
  refine (walk a0 l0 cap0 b0 t0 cat0 hcap0 hcm0 hS0 hz0 hcat0 hcmt0 hT0 hzt0).mono fun e W' ⟨he, hb⟩ => ?_
  subst he
  have stay : ∀ (t : TypeId) v d ps (sp : Nat → Bool), Try.prog.readableRec t = true → t < Try.prog.types.size → DataW.Trod enc Try.prog W 0 (fun _ => true) true t v d ps → (∀ x ∈ ps, x.block < W.heap.size) → (∀ x ∈ ps, sp x.block = true) → DataW.Trod enc Try.prog W' 0 sp true t v d ps :=
    fun t v d ps sp hr ht h hx hs => Go.WideElems.Trod_stays laid hr ht h (fun x hxp => hb.same (hx x hxp)) hs
  exact ⟨_, rfl, post_below (pa := p0 ++ []) (pv := []) hW' (fun _ _ _ => trodAll_mk1 (shut_bool Try.underlying4 true)) (fun sp hs => (trodAll_cons_mk (stay 38 _ _ _ sp (by kernel_rfl) (of_decide_eq_true (by kernel_rfl)) g0 (fun x hx => hlt x (by simp [hx])) (fun x hx => hs x (by simp [hx]))) (trodAll_mk0))) (fun _ _ => rfl) (by simp)
    hb (ok_one (by kernel_rfl) rfl (okWide_bool_mk Try.underlying4 true))⟩

theorem over : Rows.meshCoversRow.holds Try.pinned (OpenSpec.ofChange Rows.meshCoversSpec) :=
  OpenClaim.holds_of_wide 4 Try.f4 rfl rfl rfl rfl rfl rfl rfl ⟨rfl, rfl, rfl, rfl, rfl⟩ rfl rfl rfl rfl rfl (by kernel_rfl) Try.func4 (by kernel_rfl)
    (of_decide_eq_true (by kernel_rfl)) (by unfold Func.isWrapper; first | (rw [if_pos (by decide +kernel)]; kernel_rfl) | (rw [if_neg (by decide +kernel)]; exact ⟨rfl, rfl⟩))
    (fun os started H enc _ => lifted os started H enc)

theorem proved : Rows.MeshCoversSaid := over
#print axioms proved
end Go.Proofs.Ytmohcmghbfhdlaa.MeshCovers
end
