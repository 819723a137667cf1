/- MeshDisperses: no scatterers, and numbers of them that are not asked; two lists that may be nil, compared. -/
import Derived.Test.YtmohcmghbfhdlaaGreatQd
import Derived.Test.YtmohcmghbfhdlaaGreatQj
import Derived.Test.YtmohcmghbfhdlaaGreatQk
import Derived.Test.YtmohcmghbfhdlaaGreatQu
import Derived.Test.YtmohcmghbfhdlaaGreatQo
import Derived.Test.YtmohcmghbfhdlaaGreatQl
section
set_option linter.unusedSimpArgs false
set_option linter.unusedVariables false
section
namespace Go.Proofs.YtmohcmghbfhdlaaGreat
open Go.ChangeShapes Go.WideShapes Go.ChangeAt Go Go.RowKit Go.Ab Go.Ls Go.Me
set_option maxRecDepth 100000
set_option maxHeartbeats 4000000
theorem cells_FR : Tryz.prog.cellsOf 79 = 2 := by kernel_rfl
theorem ints_FR : intsT Tryz.prog 4 79 = true := by kernel_rfl
set_option maxRecDepth 100000 in
theorem open_FR {H : Type} {enc : TypeId × Value → H} {w : World} {base : Nat} {spare : Nat → Bool} {held : Bool} {r : Reach} {b0 : Nat} {v : Value} {d : DataW H} {p : List MemPlace} (hv : Value.okWide Tryz.prog w r b0 79 v) (h : DataW.Trod enc Tryz.prog w base spare held 79 v d p) :
  ∃ x0 x1 : Int, v = .agg #[.int .i64 x0, .int .i64 x1] ∧ (-9223372036854775808 ≤ x0 ∧ x0 ≤ 9223372036854775807) ∧ (-9223372036854775808 ≤ x1 ∧ x1 ≤ 9223372036854775807) := by
 obtain ⟨cs, rfl, hsz⟩ := okWide_struct Tryz.underlying79 hv
 obtain ⟨l⟩ := cs
 obtain ⟨fuel, hf⟩ := h
 have hi := ints_of 4 _ _ _ _ ints_FR hf
 match l, hsz.trans cells_FR, hi with
 | [c0, c1], _, hi =>
  obtain ⟨x0, rfl, hx0⟩ := hi c0 (by simp [Value.cells])
  obtain ⟨x1, rfl, hx1⟩ := hi c1 (by simp [Value.cells])
  exact ⟨x0, x1, rfl, wf_bd hx0, wf_bd hx1⟩
attribute [local irreducible] OQ OW AL AW AF SW
theorem Ints_n (m : Mem) : PCalls Tryz.prog 20 [.slice none 0 0, .slice none 0 0] m (.bool true) := by
 refine PCalls.any ?_ rfl rfl m
 refine PCalls.en 24 Tryz.func20 rfl (ro_nil) rfl (fun E => ?_)
 repeat' (first | with_reducible (first | refine Then.n ?_ | refine Then.r ?_ | refine Then.x ?_ | refine InB.n ?_ | refine InB.r ?_ | refine InB.hit ?_ | refine InB.miss (by decide) ?_) | ((with_reducible refine AL.on ?_); first | ((first | ((with_reducible refine AL.k_move ?_); first | refine AL.mv ?_) | ((with_reducible refine AL.k_assign ?_); first | refine AL.as ?_) | ((with_reducible refine AL.k_binOp ?_); first | refine AL.g (OQ.neq rfl rfl) ?_ | refine AL.g (OQ.lss rfl rfl) ?_ | refine AL.g (OQ.addi rfl rfl (by omega)) ?_ | refine AL.g (OQ.add rfl rfl) ?_) | ((with_reducible refine AL.k_call ?_); first | refine AL.g (OQ.lenS (xt := 26) (r := (none, 1, false)) rfl kr) ?_)); refine AL.nm ?_) | refine AL.nil ?_) | ((with_reducible refine AW.on ?_); first | refine AW.seq ?_ | refine AW.skip ?_ | refine AW.exit ?_ | refine AW.ret ?_ | (refine AW.block (id := 0) ?_; refine AW.unroll 1 ?_) | refine AW.block ?_ | (refine AW.drawF (id := 6) 8 #[0, 0, 3, 7, 0, 0, 48, 112, 255] kr kr ?_; (conv => (arg 8; simp only [List.take_succ_cons, List.take_zero]))) | refine AW.region ?_ | (refine AW.conds rfl (fun hc => ?_) (fun hc => ?_) <;> (try replace hc := nc hc) <;> first | (exfalso; first | contradiction | (first | omega | (simp at hc; done)); done) | skip)) | ((with_reducible refine AF.on ?_); first | ((first | ((with_reducible refine AF.k_move ?_); first | (refine AF.q 0 (SW.q (OQ.move wl) rfl) ?_)) | ((with_reducible refine AF.k_indexAddr ?_); first | refine AF.q 0 (SW.q (OQ.idxAddr (ty := 26) (z := 1) (g := false) rfl rfl kr (by omega) (by omega)) rfl) ?_) | ((with_reducible refine AF.k_load ?_); first | (refine AF.ql rfl (SW.q (OQ.load1 (ty := 3) rfl kr wl) rfl) ?_))); refine AF.nm ?_) | refine AF.nl ?_) | with_reducible refine AR.s ?_ | ((with_reducible refine AR.out ?_); first | omega | (simp at hc; done); done) | ((with_reducible refine FinP.on ?_); (first | refine FinP.ret (.tmp wl .nil) ?_ rfl | refine FinP.end (.tmp wl .nil) ?_ rfl); (try simp only [pack, List.drop, List.take]); all_goals (rfl)))
theorem Ints_o {m : Mem} {i j : Nat} (xs : List Int) (hx : m.at i = oB xs) (hy : m.at j = oB xs) (hl : xs.length ≤ 1000000) : PCalls Tryz.prog 20 [oV i xs, oV j xs] m (.bool true) := by
 by_cases h : xs = []
 ·subst h
  rw [oV_n, oV_n]
  exact Ints_n m
 ·rw [oB_s h] at hx hy
  rw [oV_s h, oV_s h]
  have := Ints_q (c := INF) (d := INF) xs xs hl hx rfl rfl hy rfl rfl
  rw [decide_eq_true rfl] at this
  exact this
theorem MeshDisperses_f (n c : Nat) (u d : Int) (hn : 6 < n ∧ n ≤ 40 ∨ 42 < n) : PCalls Tryz.prog 9 [.slice (some ⟨0, 0, none⟩) n c, .agg #[.int .i64 u, .int .i64 d]] [some ⟨[], false, 0⟩] (.bool true) := by
 refine PCalls.en 135 Tryz.func9 rfl (ro1p _ rfl) rfl (fun E => ?_)
 repeat' (first | with_reducible (first | refine Then.n ?_ | refine Then.r ?_ | refine Then.x ?_ | refine InB.n ?_ | refine InB.r ?_ | refine InB.hit ?_ | refine InB.miss (by decide) ?_) | ((with_reducible refine AL.on ?_); first | (refine AL.gd rfl ?_; first | (refine AL.gskip rfl rfl ?_; refine AL.nm ?_) | (refine AL.gs1 rfl rfl (fun hc => ?_) (fun hc => ?_) <;> (try replace hc := nc hc) <;> first | (exfalso; first | contradiction | (first | omega | (simp at hc; done)); done) | refine AL.nm ?_) | (refine AL.gs0 rfl rfl (fun hc => ?_) (fun hc => ?_) <;> (try replace hc := nc hc) <;> first | (exfalso; first | contradiction | (first | omega | (simp at hc; done)); done) | refine AL.nm ?_)) | ((first | ((with_reducible refine AL.k_move ?_); first | refine AL.mv ?_) | ((with_reducible refine AL.k_call ?_); first | refine AL.g (OQ.lenS (xt := 77) (r := (none, 3, true)) rfl kr) ?_ | refine AL.g (OQ.lenS (xt := 26) (r := (none, 1, false)) rfl kr) ?_) | ((with_reducible refine AL.k_assign ?_); first | refine AL.as ?_) | ((with_reducible refine AL.k_binOp ?_); first | refine AL.g (OQ.gtr rfl rfl) ?_ | refine AL.g (OQ.leq rfl rfl) ?_ | refine AL.g (OQ.lss rfl rfl) ?_ | refine AL.q rfl (nel_t52 rfl rfl) ?_ | refine AL.g (OQ.addi rfl rfl (by omega)) ?_ | refine AL.g (OQ.add rfl rfl) ?_ | refine AL.g (OQ.eql rfl rfl) ?_) | ((with_reducible refine AL.k_load ?_); first | (refine AL.g (OQ.load1 (ty := 26) rfl kr wl) ?_) | refine AL.g (OQ.loadN (ty := 79) (n := 2) rfl kr kr rfl) ?_) | ((with_reducible refine AL.k_pick ?_); first | refine AL.pT ?_ | refine AL.pF ?_) | ((with_reducible refine AL.k_indexAddr ?_); first | refine AL.g (OQ.idxAddr (ty := 77) (z := 3) (g := true) rfl rfl kr (by omega) (by omega)) ?_) | ((with_reducible refine AL.k_fieldAddr ?_); first | refine AL.g (OQ.fieldA (ty := 81) (i := 1) (n := 1) (off := 2) (g := false) rfl kr (by decide)) ?_) | ((with_reducible refine AL.k_extract ?_); first | refine AL.et ?_) | ((with_reducible refine AL.k_unOp ?_); first | refine AL.g (OQ.not rfl) ?_)); refine AL.nm ?_) | ((first | first | refine AL.pcall (g := 12) rfl kr rfl ((by exact awake_q _)) ?_ | refine AL.pcall (g := 16) rfl kr rfl (rfl) ?_ | refine AL.pcall (g := 48) rfl kr rfl (rfl) ?_ | refine AL.pcall (g := 49) rfl kr rfl (rfl) ?_ | refine AL.pcall (g := 51) rfl kr rfl (rfl) ?_ | refine AL.pcall (g := 52) rfl kr rfl (rfl) ?_ | refine AL.pcall (g := 20) rfl kr rfl (rfl) ?_); refine AL.nm ?_) | ((first | ((with_reducible refine AL.k_call ?_); first | refine AL.w rfl (by first | exact OW.appendNil (e := 81) (z := 3) (zs := [.int .i64 0, .int .i64 0, .slice none 0 0]) (by' := 40) rfl rfl kr kr kr rfl kr (by decide) rfl (by decide) (by decide) | exact OW.appendL (e := 81) (z := 3) (zs := [.int .i64 0, .int .i64 0, .slice none 0 0]) (by' := 40) rfl rfl kr kr kr rfl kr (by decide) rfl rfl rfl (by decide) (by omega) rfl rfl (by omega) (by omega)) ?_) | ((with_reducible refine AL.k_box ?_); first | refine AL.bx ?_) | ((with_reducible refine AL.k_alloc ?_); first | refine AL.w rfl (OW.alloc (ty := 52) (z := [.int .i64 0, .int .i64 0]) kr rfl) ?_) | ((with_reducible refine AL.k_store ?_); first | (refine AL.w rfl (OW.store (ty := 52) (n := 2) rfl wl rfl rfl kr rfl rfl (by decide) rfl (Nat.le_of_ble_eq_true rfl) (by intro r h; cases h)) ?_))); refine AL.nm ?_; refine AL.nM ?_) | (refine AL.bs rfl (fun hc => ?_) (fun hc => ?_) <;> (fail_if_success (with_reducible exact lit_no hc)) <;> (try replace hc := nc hc) <;> first | (exfalso; first | contradiction | (first | omega | (simp at hc; done)); done) | refine AL.nm ?_) | refine AL.nil ?_) | ((with_reducible refine AW.on ?_); first | refine AW.seq ?_ | refine AW.skip ?_ | refine AW.exit ?_ | refine AW.ret ?_ | refine AW.block ?_ | (refine AW.drawF (id := 13) 23 #[0, 0, 3, 7, 15, 31, 63, 127, 127, 511, 1023, 2047, 4095, 8191, 16383, 32767, 65535, 65535, 65535, 458751, 983039, 2031615, 4128767, 8388607, 16777215, 33554431] kr kr ?_; (conv => (arg 8; simp only [List.take_succ_cons, List.take_zero]))) | (refine AW.drawF (id := 15) 14 #[0, 0, 0, 6, 14, 30, 0, 0, 192, 448, 960, 1984, 4094, 8190, 16383, 32767] kr kr ?_; (conv => (arg 8; simp only [List.take_succ_cons, List.take_zero]))) | (refine AW.region (id := 5) ?_; exfalso; first | omega | (simp at hc; done); done) | refine AW.region ?_ | (refine AW.conds rfl (fun hc => ?_) (fun hc => ?_) <;> (try replace hc := nc hc) <;> first | (exfalso; first | contradiction | (first | omega | (simp at hc; done)); done) | skip)) | ((with_reducible refine AF.on ?_); first | (refine AF.q 0 (SW.skip rfl rfl) ?_; refine AF.nm ?_) | ((first | refine AF.q 0 (SW.no1 rfl rfl (by with_reducible rfl)) ?_ | refine AF.q 0 (SW.no0 rfl rfl (by with_reducible rfl)) ?_); refine AF.nm ?_) | ((first | ((with_reducible refine AF.k_move ?_); first | (refine AF.q 0 (SW.q (OQ.move wl) rfl) ?_) | (refine AF.q 0 (SW.yes (SW.q (OQ.move wl) rfl) rfl rfl (by with_reducible rfl)) ?_)) | ((with_reducible refine AF.k_call ?_); first | refine AF.q 2 (SW.yes (SW.pcall (g := 50) rfl kr rfl (rfl) rfl) rfl rfl (by with_reducible rfl)) ?_ | refine AF.q 2 (SW.pcall (g := 16) rfl kr rfl (rfl) rfl) ?_) | ((with_reducible refine AF.k_binOp ?_); first | refine AF.q 0 (SW.q (OQ.neq rfl rfl) rfl) ?_ | refine AF.q 0 (SW.yes (SW.q (OQ.neq rfl rfl) rfl) rfl rfl (by with_reducible rfl)) ?_ | refine AF.q 0 (SW.yes (SW.q (nel_t52 rfl rfl) rfl) rfl rfl (by with_reducible rfl)) ?_ | refine AF.q 0 (SW.yes (SW.q (OQ.eql rfl rfl) rfl) rfl rfl (by with_reducible rfl)) ?_) | ((with_reducible refine AF.k_load ?_); first | refine AF.ql rfl (SW.yes (SW.q (OQ.loadN (ty := 52) (n := 2) rfl kr kr rfl) rfl) rfl rfl (by with_reducible rfl)) ?_ | (refine AF.ql rfl (SW.yes (SW.q (OQ.load1 (ty := 26) rfl kr wl) rfl) rfl rfl (by with_reducible rfl)) ?_) | refine AF.ql rfl (SW.q (OQ.loadN (ty := 65) (n := 2) rfl kr kr rfl) rfl) ?_ | (refine AF.ql rfl (SW.q (OQ.load1 (ty := 26) rfl kr wl) rfl) ?_)) | ((with_reducible refine AF.k_pick ?_); first | (refine AF.q 0 (SW.yes (SW.q (OQ.pickT rfl (by with_reducible rfl) wl) rfl) rfl rfl (by with_reducible rfl)) ?_) | (refine AF.q 0 (SW.yes (SW.q (OQ.pickF rfl (by with_reducible rfl) wl) rfl) rfl rfl (by with_reducible rfl)) ?_) | (refine AF.q 0 (SW.q (OQ.pickT rfl (by with_reducible rfl) wl) rfl) ?_) | (refine AF.q 0 (SW.q (OQ.pickF rfl (by with_reducible rfl) wl) rfl) ?_)) | ((with_reducible refine AF.k_indexAddr ?_); first | refine AF.q 0 (SW.yes (SW.q (OQ.idxAddr (ty := 77) (z := 3) (g := true) rfl rfl kr (by omega) (by omega)) rfl) rfl rfl (by with_reducible rfl)) ?_ | refine AF.q 0 (SW.q (OQ.idxAddr (ty := 77) (z := 3) (g := true) rfl rfl kr (by omega) (by omega)) rfl) ?_) | ((with_reducible refine AF.k_fieldAddr ?_); first | refine AF.q 0 (SW.yes (SW.q (OQ.fieldA (ty := 81) (i := 1) (n := 1) (off := 2) (g := false) rfl kr (by decide)) rfl) rfl rfl (by with_reducible rfl)) ?_ | refine AF.q 0 (SW.q (OQ.fieldA (ty := 81) (i := 0) (n := 2) (off := 0) (g := true) rfl kr (by decide)) rfl) ?_ | refine AF.q 0 (SW.q (OQ.fieldA (ty := 81) (i := 1) (n := 1) (off := 2) (g := false) rfl kr (by decide)) rfl) ?_) | ((with_reducible refine AF.k_build ?_); first | refine AF.q 0 (SW.yes (SW.q (OQ.buildA (ty := 52) (zs := [.int .i64 0, .int .i64 0]) (n := 1) (k := 2) (g := false) kr rfl kr rfl rfl rfl) rfl) rfl rfl (by with_reducible rfl)) ?_ | refine AF.q 0 (SW.q (OQ.buildS (ty := 81) (zs := [.int .i64 0, .int .i64 0, .slice none 0 0]) (pls := [(0, 2), (2, 1)]) kr rfl kr rfl rfl rfl) rfl) ?_)); refine AF.nm ?_) | ((first | first | refine AF.n1 0 (SW.w (OW.buildSl (ty := 77) (zs := [.int .i64 0, .int .i64 0, .slice none 0 0]) (n := 3) (g := true) kr kr rfl rfl rfl (by decide) (by decide) rfl rfl) rfl) rfl ?_); refine AF.nm ?_; (conv => (arg 10; try tactic => exact nrmF))) | (refine AF.bs rfl (fun hc => ?_) (fun hc => ?_) <;> (fail_if_success (with_reducible exact lit_no hc)) <;> (try replace hc := nc hc) <;> first | (exfalso; first | contradiction | (first | omega | (simp at hc; done)); done) | skip) | (refine AF.gs1 rfl rfl (fun hc => ?_) (fun hc => ?_) <;> (fail_if_success (with_reducible exact lit_no hc)) <;> (try replace hc := nc hc) <;> first | (exfalso; first | contradiction | (first | omega | (simp at hc; done)); done) | skip) | (refine AF.gs0 rfl rfl (fun hc => ?_) (fun hc => ?_) <;> (fail_if_success (with_reducible exact lit_no hc)) <;> (try replace hc := nc hc) <;> first | (exfalso; first | contradiction | (first | omega | (simp at hc; done)); done) | skip) | refine AF.nl ?_) | ((with_reducible refine FinP.on ?_); (first | refine FinP.ret (.tmp wl .nil) ?_ rfl | refine FinP.end (.tmp wl .nil) ?_ rfl); (try simp only [pack, List.drop, List.take]); all_goals (rfl)))
theorem MeshDisperses_n (xa : Option Addr) (u d : Int) (hu : -9223372036854775808 ≤ u ∧ u ≤ 9223372036854775807) (hd : -9223372036854775808 ≤ d ∧ d ≤ 9223372036854775807) (hR : ∀ m, PCalls Tryz.prog 52 [.slice xa 0 0, .agg #[.int .i64 u, .int .i64 d]] m (.tuple #[.slice none 0 0, .int .i64 (frX u d)])) : PCalls Tryz.prog 9 [.slice xa 0 0, .agg #[.int .i64 u, .int .i64 d]] [] (.bool true) := by
 have hC : ∀ m, PCalls Tryz.prog 51 [.slice none 0 0, .agg #[.int .i64 u, .int .i64 d]] m (.tuple #[.slice none 0 0, .int .i64 (frX u d)]) := fun m => PCalls.viaS [] (Chosen_n u d hu hd) ro0 trivial rfl rfl rfl rfl
 generalize frX u d = FX at *
 refine PCalls.en 135 Tryz.func9 rfl (ro0) rfl (fun E => ?_)
 repeat' (first | with_reducible (first | refine Then.n ?_ | refine Then.r ?_ | refine Then.x ?_ | refine InB.n ?_ | refine InB.r ?_ | refine InB.hit ?_ | refine InB.miss (by decide) ?_) | ((with_reducible refine AL.on ?_); first | (refine AL.gd rfl ?_; first | (refine AL.gskip rfl rfl ?_; refine AL.nm ?_) | (refine AL.gs1 rfl rfl (fun hc => ?_) (fun hc => ?_) <;> (try replace hc := nc hc) <;> first | (exfalso; first | contradiction | (first | omega | (simp at hc; done)); done) | refine AL.nm ?_) | (refine AL.gs0 rfl rfl (fun hc => ?_) (fun hc => ?_) <;> (try replace hc := nc hc) <;> first | (exfalso; first | contradiction | (first | omega | (simp at hc; done)); done) | refine AL.nm ?_)) | ((first | ((with_reducible refine AL.k_move ?_); first | refine AL.mv ?_) | ((with_reducible refine AL.k_call ?_); first | refine AL.g (OQ.lenS (xt := 77) (r := (none, 3, true)) rfl kr) ?_ | refine AL.g (OQ.lenS (xt := 26) (r := (none, 1, false)) rfl kr) ?_) | ((with_reducible refine AL.k_assign ?_); first | refine AL.as ?_) | ((with_reducible refine AL.k_binOp ?_); first | refine AL.g (OQ.gtr rfl rfl) ?_ | refine AL.g (OQ.leq rfl rfl) ?_ | refine AL.g (OQ.lss rfl rfl) ?_ | refine AL.q rfl (nel_t52 rfl rfl) ?_ | refine AL.g (OQ.addi rfl rfl (by omega)) ?_ | refine AL.g (OQ.add rfl rfl) ?_ | refine AL.g (OQ.eql rfl rfl) ?_) | ((with_reducible refine AL.k_load ?_); first | (refine AL.g (OQ.load1 (ty := 26) rfl kr wl) ?_) | refine AL.g (OQ.loadN (ty := 79) (n := 2) rfl kr kr rfl) ?_) | ((with_reducible refine AL.k_pick ?_); first | refine AL.pT ?_ | refine AL.pF ?_) | ((with_reducible refine AL.k_indexAddr ?_); first | refine AL.g (OQ.idxAddr (ty := 77) (z := 3) (g := true) rfl rfl kr (by omega) (by omega)) ?_) | ((with_reducible refine AL.k_fieldAddr ?_); first | refine AL.g (OQ.fieldA (ty := 81) (i := 1) (n := 1) (off := 2) (g := false) rfl kr (by decide)) ?_) | ((with_reducible refine AL.k_extract ?_); first | refine AL.et ?_) | ((with_reducible refine AL.k_unOp ?_); first | refine AL.g (OQ.not rfl) ?_)); refine AL.nm ?_) | ((first | first | refine AL.pcall (g := 12) rfl kr rfl ((by exact awake_q _)) ?_ | refine AL.pcall (g := 16) rfl kr rfl (rfl) ?_ | refine AL.pcall (g := 48) rfl kr rfl (rfl) ?_ | refine AL.pcall (g := 49) rfl kr rfl (rfl) ?_ | refine AL.pcall (g := 51) rfl kr rfl (hC _) ?_ | refine AL.pcall (g := 52) rfl kr rfl (hR _) ?_ | refine AL.pcall (g := 20) rfl kr rfl (Ints_n _) ?_); refine AL.nm ?_) | ((first | ((with_reducible refine AL.k_call ?_); first | refine AL.w rfl (by first | exact OW.appendNil (e := 81) (z := 3) (zs := [.int .i64 0, .int .i64 0, .slice none 0 0]) (by' := 40) rfl rfl kr kr kr rfl kr (by decide) rfl (by decide) (by decide) | exact OW.appendL (e := 81) (z := 3) (zs := [.int .i64 0, .int .i64 0, .slice none 0 0]) (by' := 40) rfl rfl kr kr kr rfl kr (by decide) rfl rfl rfl (by decide) (by omega) rfl rfl (by omega) (by omega)) ?_) | ((with_reducible refine AL.k_box ?_); first | refine AL.bx ?_) | ((with_reducible refine AL.k_alloc ?_); first | refine AL.w rfl (OW.alloc (ty := 52) (z := [.int .i64 0, .int .i64 0]) kr rfl) ?_) | ((with_reducible refine AL.k_store ?_); first | (refine AL.w rfl (OW.store (ty := 52) (n := 2) rfl wl rfl rfl kr rfl rfl (by decide) rfl (Nat.le_of_ble_eq_true rfl) (by intro r h; cases h)) ?_))); refine AL.nm ?_; refine AL.nM ?_) | (refine AL.bs rfl (fun hc => ?_) (fun hc => ?_) <;> (fail_if_success (with_reducible exact lit_no hc)) <;> (try replace hc := nc hc) <;> first | (exfalso; first | contradiction | (first | omega | (simp at hc; done)); done) | refine AL.nm ?_) | refine AL.nil ?_) | ((with_reducible refine AW.on ?_); first | refine AW.seq ?_ | refine AW.skip ?_ | refine AW.exit ?_ | refine AW.ret ?_ | (refine AW.block (id := 0) ?_; refine AW.unroll 1 ?_) | refine AW.block ?_ | (refine AW.drawF (id := 13) 23 #[0, 0, 3, 7, 15, 31, 63, 127, 127, 511, 1023, 2047, 4095, 8191, 16383, 32767, 65535, 65535, 65535, 458751, 983039, 2031615, 4128767, 8388607, 16777215, 33554431] kr kr ?_; (conv => (arg 8; simp only [List.take_succ_cons, List.take_zero]))) | (refine AW.drawF (id := 15) 14 #[0, 0, 0, 6, 14, 30, 0, 0, 192, 448, 960, 1984, 4094, 8190, 16383, 32767] kr kr ?_; (conv => (arg 8; simp only [List.take_succ_cons, List.take_zero]))) | refine AW.region ?_ | (refine AW.conds rfl (fun hc => ?_) (fun hc => ?_) <;> (try replace hc := nc hc) <;> first | (exfalso; first | contradiction | (first | omega | (simp at hc; done)); done) | skip)) | ((with_reducible refine AF.on ?_); first | (refine AF.q 0 (SW.skip rfl rfl) ?_; refine AF.nm ?_) | ((first | refine AF.q 0 (SW.no1 rfl rfl (by with_reducible rfl)) ?_ | refine AF.q 0 (SW.no0 rfl rfl (by with_reducible rfl)) ?_); refine AF.nm ?_) | ((first | ((with_reducible refine AF.k_move ?_); first | (refine AF.q 0 (SW.q (OQ.move wl) rfl) ?_) | (refine AF.q 0 (SW.yes (SW.q (OQ.move wl) rfl) rfl rfl (by with_reducible rfl)) ?_)) | ((with_reducible refine AF.k_call ?_); first | refine AF.q 2 (SW.yes (SW.pcall (g := 50) rfl kr rfl (rfl) rfl) rfl rfl (by with_reducible rfl)) ?_ | refine AF.q 2 (SW.pcall (g := 16) rfl kr rfl (rfl) rfl) ?_) | ((with_reducible refine AF.k_binOp ?_); first | refine AF.q 0 (SW.q (OQ.neq rfl rfl) rfl) ?_ | refine AF.q 0 (SW.yes (SW.q (OQ.neq rfl rfl) rfl) rfl rfl (by with_reducible rfl)) ?_ | refine AF.q 0 (SW.yes (SW.q (nel_t52 rfl rfl) rfl) rfl rfl (by with_reducible rfl)) ?_ | refine AF.q 0 (SW.yes (SW.q (OQ.eql rfl rfl) rfl) rfl rfl (by with_reducible rfl)) ?_) | ((with_reducible refine AF.k_load ?_); first | refine AF.ql rfl (SW.yes (SW.q (OQ.loadN (ty := 52) (n := 2) rfl kr kr rfl) rfl) rfl rfl (by with_reducible rfl)) ?_ | (refine AF.ql rfl (SW.yes (SW.q (OQ.load1 (ty := 26) rfl kr wl) rfl) rfl rfl (by with_reducible rfl)) ?_) | refine AF.ql rfl (SW.q (OQ.loadN (ty := 65) (n := 2) rfl kr kr rfl) rfl) ?_ | (refine AF.ql rfl (SW.q (OQ.load1 (ty := 26) rfl kr wl) rfl) ?_)) | ((with_reducible refine AF.k_pick ?_); first | (refine AF.q 0 (SW.yes (SW.q (OQ.pickT rfl (by with_reducible rfl) wl) rfl) rfl rfl (by with_reducible rfl)) ?_) | (refine AF.q 0 (SW.yes (SW.q (OQ.pickF rfl (by with_reducible rfl) wl) rfl) rfl rfl (by with_reducible rfl)) ?_) | (refine AF.q 0 (SW.q (OQ.pickT rfl (by with_reducible rfl) wl) rfl) ?_) | (refine AF.q 0 (SW.q (OQ.pickF rfl (by with_reducible rfl) wl) rfl) ?_)) | ((with_reducible refine AF.k_indexAddr ?_); first | refine AF.q 0 (SW.yes (SW.q (OQ.idxAddr (ty := 77) (z := 3) (g := true) rfl rfl kr (by omega) (by omega)) rfl) rfl rfl (by with_reducible rfl)) ?_ | refine AF.q 0 (SW.q (OQ.idxAddr (ty := 77) (z := 3) (g := true) rfl rfl kr (by omega) (by omega)) rfl) ?_) | ((with_reducible refine AF.k_fieldAddr ?_); first | refine AF.q 0 (SW.yes (SW.q (OQ.fieldA (ty := 81) (i := 1) (n := 1) (off := 2) (g := false) rfl kr (by decide)) rfl) rfl rfl (by with_reducible rfl)) ?_ | refine AF.q 0 (SW.q (OQ.fieldA (ty := 81) (i := 0) (n := 2) (off := 0) (g := true) rfl kr (by decide)) rfl) ?_ | refine AF.q 0 (SW.q (OQ.fieldA (ty := 81) (i := 1) (n := 1) (off := 2) (g := false) rfl kr (by decide)) rfl) ?_) | ((with_reducible refine AF.k_build ?_); first | refine AF.q 0 (SW.yes (SW.q (OQ.buildA (ty := 52) (zs := [.int .i64 0, .int .i64 0]) (n := 1) (k := 2) (g := false) kr rfl kr rfl rfl rfl) rfl) rfl rfl (by with_reducible rfl)) ?_ | refine AF.q 0 (SW.q (OQ.buildS (ty := 81) (zs := [.int .i64 0, .int .i64 0, .slice none 0 0]) (pls := [(0, 2), (2, 1)]) kr rfl kr rfl rfl rfl) rfl) ?_)); refine AF.nm ?_) | ((first | first | refine AF.n1 0 (SW.w (OW.buildSl (ty := 77) (zs := [.int .i64 0, .int .i64 0, .slice none 0 0]) (n := 3) (g := true) kr kr rfl rfl rfl (by decide) (by decide) rfl rfl) rfl) rfl ?_); refine AF.nm ?_; (conv => (arg 10; try tactic => exact nrmF))) | (refine AF.bs rfl (fun hc => ?_) (fun hc => ?_) <;> (fail_if_success (with_reducible exact lit_no hc)) <;> (try replace hc := nc hc) <;> first | (exfalso; first | contradiction | (first | omega | (simp at hc; done)); done) | skip) | (refine AF.gs1 rfl rfl (fun hc => ?_) (fun hc => ?_) <;> (fail_if_success (with_reducible exact lit_no hc)) <;> (try replace hc := nc hc) <;> first | (exfalso; first | contradiction | (first | omega | (simp at hc; done)); done) | skip) | (refine AF.gs0 rfl rfl (fun hc => ?_) (fun hc => ?_) <;> (fail_if_success (with_reducible exact lit_no hc)) <;> (try replace hc := nc hc) <;> first | (exfalso; first | contradiction | (first | omega | (simp at hc; done)); done) | skip) | refine AF.nl ?_) | with_reducible refine AR.s ?_ | ((with_reducible refine AR.out ?_); first | omega | (simp at hc; done); done) | ((with_reducible refine FinP.on ?_); (first | refine FinP.ret (.tmp wl .nil) ?_ rfl | refine FinP.end (.tmp wl .nil) ?_ rfl); (try simp only [pack, List.drop, List.take]); all_goals (rfl)))
end Go.Proofs.YtmohcmghbfhdlaaGreat
end
end
/- Chapter 6: what holds of a right net (plain). -/
section
set_option linter.unusedSimpArgs false
set_option linter.unusedVariables false
namespace Go.Me
open Go.Ab Go.Proofs.YtmohcmghbfhdlaaGreat
set_option maxRecDepth 100000
end Go.Me
end
/- Chapter 6: what the reference's look for an edge finds, its order of triangles (plain). -/
section
set_option linter.unusedSimpArgs false
set_option linter.unusedVariables false
namespace Go.Me
open Go.Ab Go.Proofs.YtmohcmghbfhdlaaGreat
set_option maxRecDepth 100000
def isE (t : T3) (e : IE) : Prop := e = (t.1, t.2.1) ∨ e = (t.2.1, t.2.2) ∨ e = (t.2.2, t.1)
instance (t : T3) (e : IE) : Decidable (isE t e) := by unfold isE; infer_instance
end Go.Me
end
/- Chapter 6: what the reference's look for an edge, its order of triangles and its hull's area are (plain). -/
section
set_option linter.unusedSimpArgs false
set_option linter.unusedVariables false
namespace Go.Me
open Go.Ab Go.Proofs.YtmohcmghbfhdlaaGreat
set_option maxRecDepth 100000
end Go.Me
end
/- Chapter 6: the reference's area of the hull. -/
section
set_option linter.unusedSimpArgs false
set_option linter.unusedVariables false
section
namespace Go.Me
open Go.Ab Go.Proofs.YtmohcmghbfhdlaaGreat
end Go.Me
namespace Go.Proofs.YtmohcmghbfhdlaaGreat
open Go Go.RowKit Go.Ab Go.Me
set_option maxRecDepth 100000
set_option maxHeartbeats 4000000
attribute [local irreducible] OQ OW AL AW AF SW
end Go.Proofs.YtmohcmghbfhdlaaGreat
end
end
/- Chapter 6: the reference's look for an edge and for a corner, its order of triangles. -/
section
set_option linter.unusedSimpArgs false
set_option linter.unusedVariables false
section
namespace Go.Me
open Go.Ab Go.Proofs.YtmohcmghbfhdlaaGreat
end Go.Me
namespace Go.Proofs.YtmohcmghbfhdlaaGreat
open Go Go.RowKit Go.Ab Go.Me
set_option maxRecDepth 100000
set_option maxHeartbeats 4000000
attribute [local irreducible] OQ OW AL AW AF SW
end Go.Proofs.YtmohcmghbfhdlaaGreat
end
end
/- Chapter 6: the errors of a net, as the reference meets them (plain). -/
section
set_option linter.unusedSimpArgs false
set_option linter.unusedVariables false
namespace Go.Me
open Go.Ab Go.Proofs.YtmohcmghbfhdlaaGreat
set_option maxRecDepth 100000
section
variable {l : List Pn} {ts : List T3} {k : Nat}
end
end Go.Me
end
/- Chapter 6: the reference's check of a net whose lists lie in blocks. -/
section
set_option linter.unusedSimpArgs false
set_option linter.unusedVariables false
section
namespace Go.Proofs.YtmohcmghbfhdlaaGreat
open Go Go.RowKit Go.Ab Go.Me
set_option maxRecDepth 100000
set_option maxHeartbeats 8000000
attribute [local irreducible] OQ OW AL AW AF SW
end Go.Proofs.YtmohcmghbfhdlaaGreat
end
end
/- Chapter 6: the reference's check of a net whose lists have any form. -/
section
set_option linter.unusedSimpArgs false
set_option linter.unusedVariables false
section
namespace Go.Me
open Go.Ab Go.Ls
end Go.Me
namespace Go.Proofs.YtmohcmghbfhdlaaGreat
open Go Go.RowKit Go.Ab Go.Me
set_option maxRecDepth 100000
set_option maxHeartbeats 4000000
attribute [local irreducible] OQ OW AL AW AF SW
end Go.Proofs.YtmohcmghbfhdlaaGreat
end
end
/- Chapter 6: phases as the reference wraps and checks them; copies of numbers. -/
section
set_option linter.unusedSimpArgs false
set_option linter.unusedVariables false
section
namespace Go.Me
open Go.Ab Go.Proofs.YtmohcmghbfhdlaaGreat
theorem ldN {m : Mem} {b n : Nat} {blk : Blk} {xs : List Int} (hb : m.at b = some blk) (hc : blk.cells = flatN xs) (hn : xs.length = n) : m.ld b 0 (n * 1) = some (flatN xs) := by
 subst hn
 unfold Mem.ld
 rw [hb]
 show (if 0 + xs.length * 1 ≤ blk.cells.length then some ((blk.cells.drop 0).take (xs.length * 1)) else none) = _
 have := flatN_len xs
 rw [hc, if_pos (by omega), List.drop_zero, Nat.mul_one, ← flatN_len, List.take_length]
theorem flatN_one (xs : List Int) : (flatN xs).all Ab.one = true := Ls.one_of_scal (flatN_scal xs)
end Go.Me
namespace Go.Proofs.YtmohcmghbfhdlaaGreat
open Go Go.RowKit Go.Ab Go.Me
set_option maxRecDepth 100000
set_option maxHeartbeats 4000000
attribute [local irreducible] OQ OW AL AW AF SW
theorem CopyInts_b (xs : List Int) (c z : Nat) (hl : xs.length ≤ 1000000) (h0 : 0 < xs.length) : ACalls Tryz.prog 16 [.slice (some ⟨0, 0, none⟩) xs.length c] [some ⟨flatN xs, false, z⟩] (.slice (some ⟨1, 0, none⟩) xs.length INF) [some ⟨flatN xs, false, z⟩, some ⟨flatN xs, true, 1⟩] := by
 have hlen : 0 + xs.length = xs.length := Nat.zero_add _
 refine ACalls.en 5 Tryz.func16 rfl rfl (fun E hE => ?_)
 repeat' (first | with_reducible (refine Then.n ?_) | ((with_reducible refine AL.on ?_); first | ((first | refine AL.as ?_ | refine AL.mv ?_); refine AL.nm ?_) | ((first | ((with_reducible refine AL.k_buildSlice ?_); refine AL.w rfl (OW.buildSl0 (ty := 26) (z := (none, 1, false)) kr) ?_) | ((with_reducible refine AL.k_call ?_); refine AL.w rfl (OW.append (n := 0) (c := 0) (b := 1) (blk := ⟨[], true, 1⟩) (z := 1) (by' := 8) (zs := [.int .i64 0]) (e := 3) rfl rfl kr kr kr rfl kr (by omega) rfl rfl rfl (by decide) (Nat.le_refl _) (ldN rfl rfl rfl) (flatN_one _) (by omega) (by omega)) ?_)); refine AL.nm ?_; refine AL.nM ?_) | refine AL.nil ?_) | ((with_reducible refine AW.on ?_); first | refine AW.seq ?_ | refine AW.ret ?_ | refine AW.region ?_) | ((with_reducible refine FinA.on ?_); (rw [← hlen]; refine FinA.keep 1 [2] (.inl rfl) (.tmp wl .nil) ?_ rfl (Nat.le_of_eq hE) rfl rfl ⟨kl rfl (flatN_scal _), kl rfl (flatN_scal _), trivial⟩; rfl)))
theorem CopyInts_e (xa : Option Addr) : ACalls Tryz.prog 16 [.slice xa 0 0] [] (.slice (some ⟨0, 0, none⟩) 0 0) [some ⟨flatN [], true, 1⟩] := by
 refine ACalls.en 5 Tryz.func16 rfl rfl (fun E hE => ?_)
 repeat' (first | with_reducible (refine Then.n ?_) | ((with_reducible refine AL.on ?_); first | ((first | refine AL.as ?_ | refine AL.mv ?_); refine AL.nm ?_) | ((first | ((with_reducible refine AL.k_buildSlice ?_); refine AL.w rfl (OW.buildSl0 (ty := 26) (z := (none, 1, false)) kr) ?_) | ((with_reducible refine AL.k_call ?_); refine AL.q rfl (by exact OQ.append0 (v := undef) (e := 3) (z := 1) rfl rfl kr kr) ?_)); refine AL.nm ?_; refine AL.nM ?_) | refine AL.nil ?_) | ((with_reducible refine AW.on ?_); first | refine AW.seq ?_ | refine AW.ret ?_ | refine AW.region ?_) | ((with_reducible refine FinA.on ?_); (refine FinA.keep 0 [0] (.inl rfl) (.tmp wl .nil) ?_ rfl (Nat.le_of_eq hE) rfl rfl ⟨kl rfl rfl, trivial⟩; rfl)))
theorem CopyInts_g {m : Mem} {i : Nat} {v : Value} {xs : List Int} (h : SlV m i v (flatN xs) xs.length) (hl : xs.length ≤ 1000000) : ACalls Tryz.prog 16 [v] m (.slice (some ⟨m.length, 0, none⟩) xs.length (cpC xs.length)) (m ++ [some ⟨flatN xs, true, 1⟩]) := by
 rcases h with ⟨A, a0, rfl, a1, a2, a3⟩ | ⟨a1, rfl⟩ | ⟨a1, rfl⟩
 ·rw [show cpC xs.length = INF from if_neg (by omega)]
  exact ACalls.viaS (v := .slice (some ⟨m.length, 0, none⟩) xs.length INF) [i] [] [some ⟨flatN xs, true, 1⟩] (CopyInts_b xs INF A.esz hl a0) ⟨bS a1 a3 a2 (flatN_scal _), trivial⟩ (by simp) ⟨⟨_, rfl, rfl⟩, ⟨rfl, rfl, rfl, .inl ⟨rfl, flatN_scal _⟩⟩, trivial⟩ rfl rfl rfl rfl
 ·obtain rfl := List.eq_nil_of_length_eq_zero a1
  exact ACalls.viaS (v := .slice (some ⟨m.length, 0, none⟩) 0 0) [] [] [some ⟨flatN [], true, 1⟩] (CopyInts_e none) trivial (by simp) ⟨⟨rfl, rfl, rfl, .inl ⟨rfl, flatN_scal _⟩⟩, trivial⟩ rfl rfl rfl rfl
 ·obtain rfl := List.eq_nil_of_length_eq_zero a1
  exact ACalls.viaS (v := .slice (some ⟨m.length, 0, none⟩) 0 0) [] [] [some ⟨flatN [], true, 1⟩] (CopyInts_e (some ⟨5, 0, some default⟩)) trivial (by simp) ⟨⟨rfl, rfl, rfl, .inl ⟨rfl, flatN_scal _⟩⟩, trivial⟩ rfl rfl rfl rfl
end Go.Proofs.YtmohcmghbfhdlaaGreat
end
end
