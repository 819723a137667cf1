/- MeshNets: which nets are right, their edges and the triangles at both sides, are as specified, or the errors. -/
import Derived.Test.YtmohcmghbfhdlaaGreatQc
import Derived.Test.YtmohcmghbfhdlaaGreatRows
import Derived.Test.YtmohcmghbfhdlaaGreatQk
import Derived.Test.YtmohcmghbfhdlaaGreatQm
set_option linter.unusedSimpArgs false
set_option linter.unusedVariables false
section
namespace Go.Proofs.YtmohcmghbfhdlaaGreat
open Go Go.RowKit Go.Ab Go.Me
set_option maxRecDepth 100000
set_option maxHeartbeats 4000000
attribute [local irreducible] OQ OW AL AW AF SW
theorem MeshNets_f (v w : Value) (l : List Pn) (ts : List T3) (o1 o2 : Option Blk) (hr : Mem.ro [o1, o2]) (hv : SlV [o1, o2] 0 v (flatP l) l.length) (hw : SlV [o1, o2] 1 w (flatT ts) ts.length) (hl : (l.length : Int) ≤ 9223372036854775807) (ht : (ts.length : Int) ≤ 9223372036854775807) (he : liB l ts = false) :
    PCalls Tryz.prog 4 [.agg #[v, w]] [o1, o2] (.bool true) := by
  have hLi := fun (m : Mem) (e0 : m.at 0 = Mem.at [o1, o2] 0) (e1 : m.at 1 = Mem.at [o1, o2] 1) => Light_g (m := m) (hv.of e0) (hw.of e1) hl ht
  rw [he] at hLi
  refine PCalls.en 82 Tryz.func4 rfl (hr) rfl (fun E => ?_)
  repeat' (first | with_reducible (first | refine Then.n ?_ | refine Then.r ?_) | ((with_reducible refine AL.on ?_); first | ((first | ((with_reducible refine AL.k_assign ?_); (refine AL.q rfl (OQ.assign wl) ?_)) | ((with_reducible refine AL.k_load ?_); refine AL.q rfl (OQ.loadN (ty := 25) (n := 2) rfl kr kr rfl) ?_) | ((with_reducible refine AL.k_unOp ?_); refine AL.q rfl (OQ.not rfl) ?_)); (refine AL.nm ?_)) | ((first | refine AL.pcall (g := 12) rfl kr rfl ((by exact awake_q _)) ?_ | refine AL.pcall (g := 13) rfl kr rfl ((by exact hLi _ rfl rfl)) ?_); (refine AL.nm ?_)) | (((refine AL.w rfl (OW.box wl (by intro r h; cases h)) ?_)); (refine AL.nm ?_); (refine AL.nM ?_)) | refine AL.nil ?_) | ((with_reducible refine AW.on ?_); first | refine AW.seq ?_ | refine AW.skip ?_ | refine AW.ret ?_ | refine AW.region ?_ | (refine AW.conds rfl (fun hc => ?_) (fun hc => ?_) <;> (try replace hc := nc hc) <;> first | (exfalso; contradiction) | skip)) | ((with_reducible refine FinP.on ?_); (refine FinP.ret (.tmp wl .nil) ?_ rfl); (try simp only [pack, List.drop, List.take]); all_goals (rfl)))
theorem MeshNets_e (v w : Value) (l : List Pn) (ts : List T3) (hv : SlV [Ls.blX (flatP l), Ls.blX (flatT ts)] 0 v (flatP l) l.length) (hw : SlV [Ls.blX (flatP l), Ls.blX (flatT ts)] 1 w (flatT ts) ts.length) (hl : (l.length : Int) ≤ 9223372036854775807) (ht : (ts.length : Int) ≤ 9223372036854775807) (hli : liB l ts = true) (he : netE l ts ≠ 0) :
    PCalls Tryz.prog 4 [.agg #[v, w]] [Ls.blX (flatP l), Ls.blX (flatT ts)] (.bool true) := by
  obtain ⟨l1, l2⟩ := liB_le hli
  have hLi := fun (m : Mem) (e0 : m.at 0 = Ls.blX (flatP l)) (e1 : m.at 1 = Ls.blX (flatT ts)) => Light_g (m := m) (hv.of (m' := m) e0) (hw.of (m' := m) e1) hl ht
  rw [hli] at hLi
  have hC := fun (m : Mem) (e0 : m.at 0 = Ls.blX (flatP l)) (e1 : m.at 1 = Ls.blX (flatT ts)) => Copy_g (m := m) (by decide) (hv.of (m' := m) e0) (hw.of (m' := m) e1) (by omega) (by omega)
  have hN := fun (m : Mem) (bP bT : Nat) (c c2 : Nat) (hA : ArgN m bP bT l ts) => CheckNet_q (c := c) (c2 := c2) l ts hA rfl rfl (by omega)
  have hE := fun (m : Mem) (bP bT : Nat) (c c2 : Nat) (hA : ArgN m bP bT l ts) => Edges_e (c := c) (c2 := c2) l ts hA rfl rfl (by omega) he
  have hS := fun (m : Mem) (bP bT : Nat) (c c2 : Nat) (hA : ArgN m bP bT l ts) => Sides_e (c := c) (c2 := c2) l ts hA rfl rfl (by omega) he
  have hrN := fun (m : Mem) (e0 : m.at 0 = Ls.blX (flatP l)) (e1 : m.at 1 = Ls.blX (flatT ts)) => rCheckNet_g (m := m) e0 e1 hv hw (by omega) ht
  have hr := ro_bl2 (flatP l) (flatT ts)
  generalize netE l ts = E0 at *
  generalize netI l ts = I0 at *
  generalize Ls.blX (flatP l) = o1 at *
  generalize Ls.blX (flatT ts) = o2 at *
  refine PCalls.en 82 Tryz.func4 rfl (hr) rfl (fun E => ?_)
  repeat' (first | with_reducible (first | refine Then.n ?_ | refine Then.r ?_) | ((with_reducible refine AL.on ?_); first | (refine AL.gd rfl ?_; first | (refine AL.gs1 rfl rfl (fun hc => ?_) (fun hc => ?_) <;> (try replace hc := nc hc) <;> first | (exfalso; contradiction) | (refine AL.nm ?_)) | (refine AL.gs0 rfl rfl (fun hc => ?_) (fun hc => ?_) <;> (try replace hc := nc hc) <;> first | (exfalso; contradiction) | (refine AL.nm ?_))) | ((first | ((with_reducible refine AL.k_move ?_); (refine AL.q rfl (OQ.move wl) ?_)) | ((with_reducible refine AL.k_call ?_); refine AL.q rfl (OQ.lenS (xt := 45) (r := (none, 2, true)) rfl kr) ?_) | ((with_reducible refine AL.k_assign ?_); (refine AL.q rfl (OQ.assign wl) ?_)) | ((with_reducible refine AL.k_binOp ?_); first | refine AL.q rfl (OQ.neq rfl rfl) ?_ | refine AL.q rfl (OQ.eql rfl rfl) ?_ | refine AL.q rfl (OQ.addi rfl rfl (by omega)) ?_) | ((with_reducible refine AL.k_extract ?_); refine AL.q rfl (OQ.extract rfl rfl) ?_) | ((with_reducible refine AL.k_load ?_); refine AL.q rfl (OQ.loadN (ty := 25) (n := 2) rfl kr kr rfl) ?_) | ((with_reducible refine AL.k_pick ?_); first | (refine AL.q rfl (OQ.pickT rfl (by with_reducible rfl) wl) ?_) | (refine AL.q rfl (OQ.pickF rfl (by with_reducible rfl) wl) ?_)) | ((with_reducible refine AL.k_unOp ?_); refine AL.q rfl (OQ.not rfl) ?_)); (refine AL.nm ?_)) | ((first | refine AL.pcall (g := 12) rfl kr rfl ((by exact awake_q _)) ?_ | refine AL.pcall (g := 13) rfl kr rfl ((by exact hLi _ rfl rfl)) ?_ | refine AL.pcall (g := 26) rfl kr rfl ((by exact hN _ _ _ _ _ ⟨⟨_, rfl, rfl, .inr rfl, rfl⟩, ⟨_, rfl, rfl, rfl⟩, by decide⟩)) ?_ | refine AL.pcall (g := 27) rfl kr rfl ((by exact hE _ _ _ _ _ ⟨⟨_, rfl, rfl, .inr rfl, rfl⟩, ⟨_, rfl, rfl, rfl⟩, by decide⟩)) ?_ | refine AL.pcall (g := 28) rfl kr rfl ((by exact hS _ _ _ _ _ ⟨⟨_, rfl, rfl, .inr rfl, rfl⟩, ⟨_, rfl, rfl, rfl⟩, by decide⟩)) ?_ | refine AL.pcall (g := 29) rfl kr rfl ((by exact hrN _ rfl rfl)) ?_); (refine AL.nm ?_)) | ((first | ((with_reducible refine AL.k_call ?_); refine AL.acall (g := 15) rfl kr rfl ((by exact hC _ rfl rfl)) ?_) | ((with_reducible refine AL.k_box ?_); (refine AL.w rfl (OW.box wl (by intro r h; cases h)) ?_))); (refine AL.nm ?_); (refine AL.nM ?_)) | refine AL.nil ?_) | ((with_reducible refine AW.on ?_); first | refine AW.seq ?_ | refine AW.skip ?_ | refine AW.ret ?_ | refine AW.region ?_ | (refine AW.conds rfl (fun hc => ?_) (fun hc => ?_) <;> (try replace hc := nc hc) <;> first | (exfalso; contradiction) | skip)) | ((with_reducible refine FinP.on ?_); (refine FinP.ret (.tmp wl .nil) ?_ rfl); (try simp only [pack, List.drop, List.take]); all_goals (rfl)))
theorem MeshNets_y (l : List Pn) (ts : List T3) (hli : liB l ts = true) (hR : NetR l ts) :
    PCalls Tryz.prog 4 [.agg #[.slice (some ⟨0, 0, none⟩) l.length INF, .slice (some ⟨1, 0, none⟩) ts.length INF]] [some ⟨flatP l, false, 0⟩, some ⟨flatT ts, false, 0⟩] (.bool true) := by
  obtain ⟨l1, l2⟩ := liB_le hli
  have h0 : 0 < ts.length := hR.g.1
  have h2 := two_of hR.all h0
  have hle := edL_le ts
  have h80 := hR.le
  have h40 := (cp_ok hR.cp).1
  have e1 : Ls.blX (flatP l) = some ⟨flatP l, false, 0⟩ := if_neg (fun h => by have := (flatP_nil l).1 h; omega)
  have e2 : Ls.blX (flatT ts) = some ⟨flatT ts, false, 0⟩ := if_neg (fun h => by have := (flatT_nil ts).1 h; omega)
  have hrN : ∀ (m : Mem) (e0 : m.at 0 = some ⟨flatP l, false, 0⟩) (e1 : m.at 1 = some ⟨flatT ts, false, 0⟩), PCalls Tryz.prog 29 [.agg #[.slice (some ⟨0, 0, none⟩) l.length INF, .slice (some ⟨1, 0, none⟩) ts.length INF]] m (.tuple #[.int .i64 (netI l ts), .int .i64 (netE l ts)]) := fun m m0 m1 =>
    rCheckNet_g (m := m) (by rw [e1]; exact m0) (by rw [e2]; exact m1) (.blk _ (by omega) rfl e1 rfl rfl) (.blk _ h0 rfl e2 rfl rfl) (by omega) (by omega)
  have hLi := fun (m : Mem) (A B : Blk) (a1 : m.at 0 = some A) (a2 : A.cells = flatP l) (b1 : m.at 1 = some B) (b2 : B.cells = flatT ts) (a3 : A.obj = Ob.plain) (b3 : B.obj = Ob.plain) => Light_g (m := m) (i := 0) (j := 1) (.blk A (by omega) rfl a1 a2 a3) (.blk B h0 rfl b1 b2 b3) (by omega) (by omega)
  rw [hli] at hLi
  have hC := fun (m : Mem) (A B : Blk) (a1 : m.at 0 = some A) (a2 : A.cells = flatP l) (b1 : m.at 1 = some B) (b2 : B.cells = flatT ts) (a3 : A.obj = Ob.plain) (b3 : B.obj = Ob.plain) => Copy_y (m := m) (i := 0) (j := 1) (by decide) (by omega) h0 (by omega) (by omega) a1 a2 b1 b2 a3 b3
  have hN := fun (m : Mem) (bP bT : Nat) (hA : ArgN m bP bT l ts) => CheckNet_q (c := INF) (c2 := INF) l ts hA rfl rfl (by omega)
  have hE := fun (m : Mem) (bP bT : Nat) (hA : ArgN m bP bT l ts) => Edges_q (c := INF) (c2 := INF) l ts hA rfl rfl hR
  have hS := fun (m : Mem) (bP bT : Nat) (hA : ArgN m bP bT l ts) => Sides_q (c := INF) (c2 := INF) l ts hA rfl rfl hR
  have hrE := fun (m : Mem) (A B : Blk) (a1 : m.at 0 = some A) (a2 : A.cells = flatP l) (b1 : m.at 1 = some B) (b2 : B.cells = flatT ts) (a3 : A.obj = Ob.plain) (b3 : B.obj = Ob.plain) (a4 : A.esz = 0) (b4 : B.esz = 0) => rEdges_q l ts hR INF INF (by decide) a1 a2 b1 b2 a3 b3 a4 b4
  have hrS := fun (m : Mem) (A B : Blk) (a1 : m.at 0 = some A) (a2 : A.cells = flatP l) (b1 : m.at 1 = some B) (b2 : B.cells = flatT ts) (a3 : A.obj = Ob.plain) (b3 : B.obj = Ob.plain) (a4 : A.esz = 0) (b4 : B.esz = 0) => rSides_q l ts hR INF INF (by decide) a1 a2 b1 b2 a3 b3 a4 b4
  have hsl := sdL_len ts
  have hP := fun (m : Mem) (b b' n n' : Nat) (X Y : Blk) (hn : (edL ts).length = n) (hn' : (edL ts).length = n') (x1 : m.at b = some X) (x2 : X.cells = flatP (edL ts)) (y1 : m.at b' = some Y) (y2 : Y.cells = flatP (edL ts)) (x3 : X.obj = Ob.plain) (y3 : Y.obj = Ob.plain) => Pairs_q (c := INF) (d := INF) (edL ts) (by omega) hn hn' x1 x2 y1 y2 x3 y3
  have hP2 := fun (m : Mem) (b b' n n' : Nat) (X Y : Blk) (hn : (sdL ts).length = n) (hn' : (sdL ts).length = n') (x1 : m.at b = some X) (x2 : X.cells = flatP (sdL ts)) (y1 : m.at b' = some Y) (y2 : Y.cells = flatP (sdL ts)) (x3 : X.obj = Ob.plain) (y3 : Y.obj = Ob.plain) => Pairs_q (c := INF) (d := INF) (sdL ts) (by omega) hn hn' x1 x2 y1 y2 x3 y3
  rw [netE_0.2 hR] at hN hrN
  generalize netI l ts = I0 at *
  refine PCalls.en 82 Tryz.func4 rfl (ro2p _ _ rfl rfl) rfl (fun E => ?_)
  repeat' (first | with_reducible (refine Then.n ?_) | ((with_reducible refine AL.on ?_); first | (refine AL.gd rfl ?_; first | (refine AL.gs1 rfl rfl (fun hc => ?_) (fun hc => ?_) <;> (try replace hc := nc hc) <;> first | (exfalso; contradiction) | (refine AL.nm ?_)) | (refine AL.gs0 rfl rfl (fun hc => ?_) (fun hc => ?_) <;> (try replace hc := nc hc) <;> first | (exfalso; contradiction) | (refine AL.nm ?_))) | ((first | ((with_reducible refine AL.k_move ?_); (refine AL.q rfl (OQ.move wl) ?_)) | ((with_reducible refine AL.k_assign ?_); (refine AL.q rfl (OQ.assign wl) ?_)) | ((with_reducible refine AL.k_binOp ?_); first | refine AL.q rfl (OQ.neq rfl rfl) ?_ | refine AL.q rfl (OQ.eql rfl rfl) ?_) | ((with_reducible refine AL.k_extract ?_); refine AL.q rfl (OQ.extract rfl rfl) ?_) | ((with_reducible refine AL.k_load ?_); refine AL.q rfl (OQ.loadN (ty := 25) (n := 2) rfl kr kr rfl) ?_) | ((with_reducible refine AL.k_pick ?_); first | (refine AL.q rfl (OQ.pickT rfl (by with_reducible rfl) wl) ?_) | (refine AL.q rfl (OQ.pickF rfl (by with_reducible rfl) wl) ?_)) | ((with_reducible refine AL.k_unOp ?_); refine AL.q rfl (OQ.not rfl) ?_)); (refine AL.nm ?_)) | ((first | refine AL.pcall (g := 12) rfl kr rfl ((by exact awake_q _)) ?_ | refine AL.pcall (g := 13) rfl kr rfl ((by exact hLi _ _ _ rfl rfl rfl rfl rfl rfl)) ?_ | refine AL.pcall (g := 26) rfl kr rfl ((by exact hN _ _ _ ⟨⟨_, rfl, rfl, .inr rfl, rfl⟩, ⟨_, rfl, rfl, rfl⟩, by decide⟩)) ?_ | refine AL.pcall (g := 29) rfl kr rfl ((by exact hrN _ rfl rfl)) ?_ | refine AL.pcall (g := 30) rfl kr rfl ((by first | exact hP _ _ _ _ _ _ _ rfl rfl rfl rfl rfl rfl rfl rfl | exact hP2 _ _ _ _ _ _ _ rfl hsl rfl rfl rfl rfl rfl rfl)) ?_); (refine AL.nm ?_)) | ((first | ((with_reducible refine AL.k_call ?_); first | refine AL.acall (g := 15) rfl kr rfl ((by exact hC _ _ _ rfl rfl rfl rfl rfl rfl)) ?_ | refine AL.acall (g := 27) rfl kr rfl ((by exact hE _ _ _ ⟨⟨_, rfl, rfl, .inr rfl, rfl⟩, ⟨_, rfl, rfl, rfl⟩, by decide⟩)) ?_ | refine AL.acall (g := 28) rfl kr rfl ((by exact hS _ _ _ ⟨⟨_, rfl, rfl, .inr rfl, rfl⟩, ⟨_, rfl, rfl, rfl⟩, by decide⟩)) ?_ | refine AL.acall (g := 31) rfl kr rfl ((by exact hrE _ _ _ rfl rfl rfl rfl rfl rfl rfl rfl)) ?_ | refine AL.acall (g := 32) rfl kr rfl ((by exact hrS _ _ _ rfl rfl rfl rfl rfl rfl rfl rfl)) ?_) | ((with_reducible refine AL.k_box ?_); (refine AL.w rfl (OW.box wl (by intro r h; cases h)) ?_))); (refine AL.nm ?_); (refine AL.nM ?_)) | refine AL.nil ?_) | ((with_reducible refine AW.on ?_); first | refine AW.seq ?_ | refine AW.skip ?_ | refine AW.ret ?_ | refine AW.region ?_ | (refine AW.conds rfl (fun hc => ?_) (fun hc => ?_) <;> (try replace hc := nc hc) <;> first | (exfalso; contradiction) | skip)) | ((with_reducible refine FinP.on ?_); (refine FinP.ret (.tmp wl .nil) ?_ rfl); (try simp only [pack, List.drop, List.take]); all_goals (rfl)))
theorem MeshNets_q (v w : Value) (l : List Pn) (ts : List T3) (hv : SlV [Ls.blX (flatP l), Ls.blX (flatT ts)] 0 v (flatP l) l.length) (hw : SlV [Ls.blX (flatP l), Ls.blX (flatT ts)] 1 w (flatT ts) ts.length) (hl : (l.length : Int) ≤ 9223372036854775807) (ht : (ts.length : Int) ≤ 9223372036854775807) :
    PCalls Tryz.prog 4 [.agg #[v, w]] [Ls.blX (flatP l), Ls.blX (flatT ts)] (.bool true) := by
  cases hli : liB l ts with
  | false => exact MeshNets_f v w l ts _ _ (ro_bl2 _ _) hv hw hl ht hli
  | true =>
    by_cases he : netE l ts = 0
    · have hR := netE_0.1 he
      have h0 : 0 < ts.length := hR.g.1
      have h2 := two_of hR.all h0
      have h1 := MeshNets_y l ts hli hR
      have e1 : Ls.blX (flatP l) = some ⟨flatP l, false, 0⟩ := if_neg (fun h => by have := (flatP_nil l).1 h; omega)
      have e2 : Ls.blX (flatT ts) = some ⟨flatT ts, false, 0⟩ := if_neg (fun h => by have := (flatT_nil ts).1 h; omega)
      rw [(hv.pos (by omega)).1, (hw.pos h0).1, e1, e2]
      exact h1
    · exact MeshNets_e v w l ts hv hw hl ht hli he
end Go.Proofs.YtmohcmghbfhdlaaGreat
end

section
namespace Go.Proofs.YtmohcmghbfhdlaaGreat.MeshNets
open Go.ChangeShapes Go.WideShapes Go.ChangeAt Go Go.RowKit Go.Ab Go.Ls Go.Me Go.Proofs.YtmohcmghbfhdlaaGreat
set_option maxRecDepth 100000
theorem walk {W : World} (a : Option Addr) (l : List Pn) (cap : Nat) (b : Option Addr) (ts : List T3) (cat : Nat) (hcap : l.length ≤ cap) (hcm : cap ≤ maxLen) (hS : SlX W a (flatP l)) (hz : a = none → cap = 0) (hcat : ts.length ≤ cat) (hcmt : cat ≤ maxLen) (hT : SlX W b (flatT ts)) (hzt : b = none → cat = 0) :
    Calls Tryz.prog 4 #[.agg #[.slice a l.length cap, .slice b ts.length cat]] W fun e w' => e = .returned (.bool true) ∧ Below W.heap.size W w' := by
  simp only [maxLen] at hcm hcmt
  refine glueL (args := [argN 0 a b l ts]) [(a, flatP l), (b, flatT ts)] (fun x hx => ?_) ?_ (MeshNets_q _ _ l ts (.arg rfl (flatP_nil l)) (.arg rfl (flatT_nil ts)) (by omega) (by omega))
  · rcases List.mem_cons.1 hx with rfl | hx
    · exact ⟨flatP_scal l, hS⟩
    · rw [List.mem_singleton] at hx
      subst hx
      exact ⟨flatT_scal ts, hT⟩
  · refine .tuple rfl fun i h h' => ?_
    match i, h with
    | 0, _ => exact argN_rel hS hT hcap hcat hz hzt rfl rfl
    | i + 1, h => exact absurd h (by simp)

set_option maxRecDepth 100000 in
theorem lifted (os : Os) (started : os.Started) (H : Type) (enc : TypeId × Value → H) :
    ReturnsInHanded {} Tryz.checked os 4 .any (Rows.meshNetsSpec.pre6 enc Tryz.prog Tryz.f4 Rows.meshNetsRow.domain false) (Rows.meshNetsSpec.post enc Tryz.prog Tryz.f4 false true false false) := by
  refine returnsInHanded_of_change (C := Tryz.checked) own started (by kernel_rfl) Tryz.func4
    (ChangeSpec.witness6 (enc := enc) (C := Tryz.checked) false ⟨#[], #[.agg #[.slice none 0 0, .slice none 0 0]], []⟩ 8 (by kernel_rfl) (by kernel_rfl) (by kernel_rfl) (by kernel_rfl)) ?_
  intro W base args ds gs before hval0 hW hcnd _
  have hval : ∀ (j : Nat) t v, Tryz.f4.params[j]? = some t → args[j]? = some v → Value.okWide Tryz.prog W .any base t v := hval0
  have hW' := hW
  obtain ⟨p, q, hA0, hV, rfl, hfz, hnd⟩ := hW
  have hA : DataW.TrodAll enc Tryz.prog W 0 (fun _ => true) true Tryz.f4.params.toList args.toList ds p := hA0
  rw [Tryz.params4] at hA hval
  obtain ⟨v0, vs0, d0, ds0, p0, q0, hargs, rfl, rfl, h0, r0⟩ := trodAll_cons hA
  obtain ⟨rfl, rfl, rfl⟩ := trodAll_nil r0
  obtain rfl : args = #[v0] := by cases args; simp_all
  obtain ⟨rfl, rfl⟩ := trodVars_none hV
  clear hA0 hval0
  have hlt := hW'.lt
  have g0 := h0
  obtain ⟨a0, l0, cap0, b0, t0, cat0, rfl, hcap0, hcm0, hS0, hz0, hcat0, hcmt0, hT0, hzt0⟩ := open_MN (hval 0 25 v0 rfl rfl) h0
  simp only [List.append_nil] at hW' hlt ⊢
  refine (walk a0 l0 cap0 b0 t0 cat0 hcap0 hcm0 hS0 hz0 hcat0 hcmt0 hT0 hzt0).mono fun e W' ⟨he, hb⟩ => ?_
  subst he
  have stay : ∀ (t : TypeId) v d ps (sp : Nat → Bool), Tryz.prog.readableRec t = true → t < Tryz.prog.types.size → DataW.Trod enc Tryz.prog W 0 (fun _ => true) true t v d ps → (∀ x ∈ ps, x.block < W.heap.size) → (∀ x ∈ ps, sp x.block = true) → DataW.Trod enc Tryz.prog W' 0 sp true t v d ps :=
    fun t v d ps sp hr ht h hx hs => Go.WideElems.Trod_stays laid hr ht h (fun x hxp => hb.same (hx x hxp)) hs
  exact ⟨_, rfl, post_below (pa := p0 ++ []) (pv := []) hW' (fun _ _ _ => trodAll_mk1 (shut_bool Tryz.underlying4 true)) (fun sp hs => (trodAll_cons_mk (stay 25 _ _ _ sp (by kernel_rfl) (of_decide_eq_true (by kernel_rfl)) g0 (fun x hx => hlt x (by simp [hx])) (fun x hx => hs x (by simp [hx]))) (trodAll_mk0))) (fun _ _ => rfl) (by simp)
    hb (ok_one (by kernel_rfl) rfl (okWide_bool_mk Tryz.underlying4 true))⟩

theorem over : Rows.meshNetsRow.holds Tryz.pinned (OpenSpec.ofChange Rows.meshNetsSpec) :=
  OpenClaim.holds_of_wide 4 Tryz.f4 rfl rfl rfl rfl rfl rfl rfl ⟨rfl, rfl, rfl, rfl, rfl⟩ rfl rfl rfl rfl rfl (by kernel_rfl) Tryz.func4 (by kernel_rfl)
    (of_decide_eq_true (by kernel_rfl)) (by unfold Func.isWrapper; first | (rw [if_pos (by decide +kernel)]; kernel_rfl) | (rw [if_neg (by decide +kernel)]; exact ⟨rfl, rfl⟩))
    (fun os started H enc _ => lifted os started H enc)

theorem proved : Rows.MeshNetsSaid := over
#print axioms proved
end Go.Proofs.YtmohcmghbfhdlaaGreat.MeshNets
end
