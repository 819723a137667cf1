/- Chapter 8: NormalOf of the program. -/
import Derived.Test.YthgbincoppnpgaaDoor08n
import Derived.Test.YthgbincoppnpgaaDoorAbG
import Derived.Test.YthgbincoppnpgaaDoorAbH
set_option linter.unusedSimpArgs false
set_option linter.unusedVariables false
namespace Go.Proofs.YthgbincoppnpgaaDoor
open Go Go.RowKit Go.Ab Go.Sr
set_option maxRecDepth 100000
set_option maxHeartbeats 2000000
attribute [local irreducible] OQ OW AL AW AD AF SW

theorem GrowI_c (n : Int) (h0 : 0 < n) (h1 : n ≤ 1000000) : ACalls Tryd.prog 49 [.slice none 0 0, .int .i64 n] [] (.slice (some ⟨0, 0, none⟩) 0 INF) [some ⟨[], true, 1⟩] := by
  refine ACalls.enter (t := [.slice none 0 0, .int .i64 n, undef, undef, undef, undef, undef, undef, undef, undef, undef, undef, undef, undef, undef, undef, undef, undef, undef, undef, undef, undef, undef, undef, undef, undef, undef]) Tryd.func49 rfl rfl fun E hE => ?_
  repeat' (first
    | with_reducible refine Then.n ?_
    | with_reducible refine Then.r ?_
    | with_reducible refine Then.x ?_
    | with_reducible refine InB.n ?_
    | with_reducible refine InB.r ?_
    | with_reducible refine InB.hit ?_
    | with_reducible refine InB.miss (by decide) ?_
    | ((with_reducible refine AL.on ?_); first
      | ((first | ((with_reducible refine AL.k_move ?_); first | (refine AL.q rfl (OQ.move (by conv => lhs; whnf)) ?_)) | ((with_reducible refine AL.k_call ?_); first | refine AL.q rfl (OQ.capNil rfl Tryd.underlying33) ?_ | refine AL.q rfl (OQ.lenS (xt := 33) (r := (none, 1, false)) rfl (by kernel_rfl)) ?_) | ((with_reducible refine AL.k_assign ?_); first | (refine AL.q rfl (OQ.assign (by conv => lhs; whnf)) ?_)) | ((with_reducible refine AL.k_binOp ?_); first | refine AL.q rfl (OQ.lss rfl rfl) ?_ | refine AL.q rfl (OQ.subi rfl rfl (by omega)) ?_ | refine AL.q rfl (OQ.sub rfl rfl) ?_ | refine AL.q rfl (OQ.gtr rfl rfl) ?_) | refine AL.q rfl (by first | exact OQ.sliceNil (ty := 33) (z := (none, 1, false)) rfl (by kernel_rfl) rfl rfl | exact OQ.sliceS (ty := 33) (l := 0) (h := 0) (z := 1) (g := false) rfl (by kernel_rfl) rfl (.inr rfl) rfl rfl (by decide) (by decide) (by omega)) ?_); (conv => (arg 5; try tactic => exact nrm)))
      | ((first | first | refine AL.w rfl (OW.appendZ (e := 3) (z := 1) (by' := 8) (zs := [.int .i64 0]) rfl rfl (by kernel_rfl) Tryd.underlying3 (by kernel_rfl) (by kernel_rfl) rfl (by kernel_rfl) (by decide) (by omega) (by omega) (by omega)) ?_); (conv => (arg 5; try tactic => exact nrm)); (conv => (arg 6; try tactic => exact nrm)))
      | refine AL.nil ?_)
    | ((with_reducible refine AW.on ?_); first
      | refine AW.seq ?_
      | refine AW.skip ?_
      | refine AW.exit ?_
      | refine AW.ret ?_
      | refine AW.block ?_
      | (refine AW.region (id := 2) ?_; exfalso; omega; done)
      | refine AW.region ?_
      | (refine AW.conds rfl (fun hc => ?_) (fun hc => ?_) <;> (try simp only [decide_eq_true_eq, decide_eq_false_iff_not, Bool.not_true, Bool.not_false, Bool.not_eq_true', Bool.not_eq_false', Int.not_lt, Int.not_le, Classical.not_not, ne_eq] at hc) <;> first | (exfalso; first | contradiction | (omega); done) | skip))
    | ((with_reducible refine FinA.on ?_); (refine FinA.keep 0 [0] (.inl rfl) (.tmp (by conv => lhs; whnf) .nil) ?_ rfl (Nat.le_of_eq hE) rfl rfl ⟨⟨_, rfl, rfl, rfl, .inl ⟨rfl, rfl⟩⟩, trivial⟩; rfl)))
theorem GrowI_q {m : Mem} (n : Int) (h0 : 0 < n) (h1 : n ≤ 1000000) : ACalls Tryd.prog 49 [.slice none 0 0, .int .i64 n] m (.slice (some ⟨m.length, 0, none⟩) 0 INF) (m ++ [some ⟨[], true, 1⟩]) :=
  ACalls.viaN (m0 := []) (x := some ⟨[], true, 1⟩) (fun _ => 0) (GrowI_c n h0 h1) (fun x bk hx => by simp [Mem.at] at hx) (fun x hx => absurd hx (by simp)) (fun blk h => by cases h; exact ⟨rfl, rfl⟩) rfl rfl (by simp [rn3, rn2, rn1, τn]) rfl
abbrev nmC (n : Nm) : List Value := [.int .i64 n.xx, .int .i64 n.xy, .int .i64 n.xz, .int .i64 n.xy, .int .i64 n.yy, .int .i64 n.yz, .int .i64 n.xz, .int .i64 n.yz, .int .i64 n.zz, .int .i64 n.p, .int .i64 n.q, .int .i64 n.r]
abbrev nm9 (n : Nm) : List Value := [.int .i64 n.xx, .int .i64 n.xy, .int .i64 n.xz, .int .i64 n.xy, .int .i64 n.yy, .int .i64 n.yz, .int .i64 n.xz, .int .i64 n.yz, .int .i64 n.zz]
theorem ConcatI_c (n : Nm) (z z' c1 c2 c3 : Nat) : ACalls Tryd.prog 24 [.slice (some ⟨1, 0, none⟩) 3 3] [some ⟨nmC n, false, z⟩, some ⟨[.slice (some ⟨0, 0, none⟩) 3 c1, .slice (some ⟨0, 3, none⟩) 3 c2, .slice (some ⟨0, 6, none⟩) 3 c3], false, z'⟩]
    (.slice (some ⟨2, 0, none⟩) 9 INF) [some ⟨nmC n, false, z⟩, some ⟨[.slice (some ⟨0, 0, none⟩) 3 c1, .slice (some ⟨0, 3, none⟩) 3 c2, .slice (some ⟨0, 6, none⟩) 3 c3], false, z'⟩, some ⟨nm9 n, true, 1⟩] := by
  refine ACalls.enter (t := [.slice (some ⟨1, 0, none⟩) 3 3, undef, undef, undef, undef, undef, undef, undef, undef, undef, undef, undef, undef, undef, undef, undef, undef, undef, undef, undef, undef, undef, undef, undef, undef, undef, undef, undef, undef, undef, undef, undef, undef, undef, undef, undef]) Tryd.func24 rfl rfl fun E hE => ?_
  repeat' (first
    | with_reducible refine Then.n ?_
    | with_reducible refine Then.r ?_
    | with_reducible refine Then.x ?_
    | with_reducible refine InB.n ?_
    | with_reducible refine InB.r ?_
    | with_reducible refine InB.hit ?_
    | with_reducible refine InB.miss (by decide) ?_
    | ((with_reducible refine AL.on ?_); first
      | ((first | ((with_reducible refine AL.k_move ?_); first | (refine AL.q rfl (OQ.move (by conv => lhs; whnf)) ?_)) | ((with_reducible refine AL.k_assign ?_); first | (refine AL.q rfl (OQ.assign (by conv => lhs; whnf)) ?_)) | ((with_reducible refine AL.k_binOp ?_); first | refine AL.q rfl (OQ.lss rfl rfl) ?_ | refine AL.q rfl (OQ.addi rfl rfl (by omega)) ?_ | refine AL.q rfl (OQ.add rfl rfl) ?_) | ((with_reducible refine AL.k_call ?_); first | refine AL.q rfl (OQ.lenS (xt := 105) (r := (none, 1, false)) rfl (by kernel_rfl)) ?_ | refine AL.q rfl (OQ.lenS (xt := 33) (r := (none, 1, false)) rfl (by kernel_rfl)) ?_) | ((with_reducible refine AL.k_indexAddr ?_); first | refine AL.q rfl (OQ.idxAddr (ty := 105) (z := 1) (g := false) rfl rfl (by kernel_rfl) (by omega) (by omega)) ?_) | ((with_reducible refine AL.k_load ?_); first | (refine AL.q rfl (OQ.load1 (ty := 33) rfl (by kernel_rfl) (by conv => lhs; whnf)) ?_))); (conv => (arg 5; try tactic => exact nrm)))
      | ((first | first | refine AL.acall (g := 49) rfl (by kernel_rfl) rfl ((GrowI_q _ (by decide) (by decide))) ?_ | refine AL.w rfl (by first | exact OW.append (n := 0) (b := 2) (bx := 0) (k := 3) (z := 1) (by' := 8) (zs := [.int .i64 0]) (e := 3) rfl rfl (by kernel_rfl) (by kernel_rfl) (by kernel_rfl) rfl (by kernel_rfl) (by decide) rfl rfl rfl (by decide) (Nat.le_of_ble_eq_true rfl) rfl rfl (by decide) (by decide) | exact OW.append (n := 3) (b := 3) (bx := 0) (k := 3) (z := 1) (by' := 8) (zs := [.int .i64 0]) (e := 3) rfl rfl (by kernel_rfl) (by kernel_rfl) (by kernel_rfl) rfl (by kernel_rfl) (by decide) rfl rfl rfl (by decide) (Nat.le_of_ble_eq_true rfl) rfl rfl (by decide) (by decide) | exact OW.append (n := 6) (b := 4) (bx := 0) (k := 3) (z := 1) (by' := 8) (zs := [.int .i64 0]) (e := 3) rfl rfl (by kernel_rfl) (by kernel_rfl) (by kernel_rfl) rfl (by kernel_rfl) (by decide) rfl rfl rfl (by decide) (Nat.le_of_ble_eq_true rfl) rfl rfl (by decide) (by decide)) ?_); (conv => (arg 5; try tactic => exact nrm)); (conv => (arg 6; try tactic => exact nrm)))
      | refine AL.nil ?_)
    | ((with_reducible refine AW.on ?_); first
      | refine AW.seq ?_
      | refine AW.skip ?_
      | refine AW.exit ?_
      | refine AW.ret ?_
      | (refine AW.block (id := 0) ?_; refine AW.unroll 4 ?_)
      | (refine AW.block (id := 2) ?_; refine AW.unroll 4 ?_)
      | refine AW.block ?_
      | (refine AW.region (id := 7) ?_; exfalso; first | omega | (simp at *; done); done)
      | refine AW.region ?_
      | (refine AW.conds rfl (fun hc => ?_) (fun hc => ?_) <;> (try simp only [decide_eq_true_eq, decide_eq_false_iff_not, Bool.not_true, Bool.not_false, Bool.not_eq_true', Bool.not_eq_false', Int.not_lt, Int.not_le, Classical.not_not, ne_eq] at hc) <;> first | (exfalso; first | contradiction | (first | omega | (simp at *; done)); done) | skip))
    | with_reducible refine AR.s ?_
    | ((with_reducible refine AR.out ?_); first | omega | (simp at *; done); done)
    | ((with_reducible refine FinA.on ?_); (refine FinA.keep 2 [5] (.inl rfl) (.tmp (by conv => lhs; whnf) .nil) ?_ rfl (Nat.le_of_eq hE) rfl rfl ⟨⟨_, rfl, rfl, rfl, .inl ⟨rfl, rfl⟩⟩, ⟨_, rfl, rfl, rfl, .inr ⟨rfl, rfl⟩⟩, ⟨_, rfl, rfl, rfl, .inl ⟨rfl, rfl⟩⟩, trivial⟩; rfl)))
theorem ConcatI_q {m : Mem} {i j : Nat} {B A : Blk} (n : Nm) (c1 c2 c3 : Nat) (hi : m.at i = some B) (hB : B.cells = nmC n) (hj : m.at j = some A) (hA : A.cells = [.slice (some ⟨i, 0, none⟩) 3 c1, .slice (some ⟨i, 3, none⟩) 3 c2, .slice (some ⟨i, 6, none⟩) 3 c3]) :
    ACalls Tryd.prog 24 [.slice (some ⟨j, 0, none⟩) 3 3] m (.slice (some ⟨m.length, 0, none⟩) 9 INF) (m ++ [some ⟨nm9 n, true, 1⟩]) := by
  refine ACalls.viaN (m0 := [some ⟨nmC n, false, B.esz⟩, some ⟨[.slice (some ⟨0, 0, none⟩) 3 c1, .slice (some ⟨0, 3, none⟩) 3 c2, .slice (some ⟨0, 6, none⟩) 3 c3], false, A.esz⟩]) (x := some ⟨nm9 n, true, 1⟩)
    (fun b => if b = 0 then i else j) (ConcatI_c n B.esz A.esz c1 c2 c3) (fun x bk hx => ?_) (fun x hx => ?_) (fun blk h => by cases h; exact ⟨rfl, rfl⟩) rfl rfl ?_ rfl
  · have := Mem.at_lt hx
    match x, this with
    | 0, _ =>
      cases hx
      refine ⟨rfl, rfl, B, hi, rfl, fun q v hv => ?_⟩
      rw [hB]
      rw [rn1_scal (List.all_eq_true.1 (show (nmC n).all Ab.scal = true from rfl) v (List.mem_of_getElem? hv))]
      exact hv
    | 1, _ =>
      cases hx
      refine ⟨rfl, rfl, A, hj, rfl, fun q v hv => ?_⟩
      rw [hA]
      match q with
      | 0 => cases hv; rfl
      | 1 => cases hv; rfl
      | 2 => cases hv; rfl
      | q + 3 => simp at hv
    | x + 2, h => exact absurd h (by simp)
  · match x, hx with
    | 0, _ => exact ⟨_, rfl⟩
    | 1, _ => exact ⟨_, rfl⟩
    | x + 2, h => exact absurd h (by simp)
  · simp [rn3, rn2, rn1, τn]
abbrev z3 : Value := .agg #[.int .i64 0, .int .i64 0, .int .i64 0]
section
variable {l : List Ep} {nm : ByteArray}
theorem NormalOf_e {m : Mem} {v : Value} (c : Int) (hS : SlE m v l) (hn : nm.size ≤ 1000) (hl : l.length ≤ 1000) (hc : srE nm.data.toList l = c) (hc0 : c ≠ 0) :
    PCalls Tryd.prog 7 [srV nm v] m (.tuple #[z9, z3, .int .i64 c]) := by
  have HC := fun (m : Mem) (v : Value) (hS : SlE m v l) => open_e nm c hS hn hl hc hc0
  refine Sh.up hS rfl rfl fun v m0 h => ?_
  have hro := h.ro
  rcases h with ⟨rfl, rfl, h3⟩ | ⟨rfl, rfl, h3⟩ | ⟨z, rfl, rfl⟩
  all_goals
    refine PCalls.enter (t := [srV nm _, undef, undef, undef, undef, undef, undef, undef, undef, undef, undef, undef, undef, undef, undef, undef, undef, undef, undef, undef, undef, undef, undef, undef, undef, undef, undef, undef, undef, undef, undef, undef, undef, undef]) Tryd.func7 rfl (hro) rfl fun E => ?_
    repeat' (first
      | with_reducible refine Then.n ?_
      | with_reducible refine Then.r ?_
      | with_reducible refine Then.x ?_
      | with_reducible refine InB.n ?_
      | with_reducible refine InB.r ?_
      | with_reducible refine InB.hit ?_
      | with_reducible refine InB.miss (by decide) ?_
      | ((with_reducible refine AL.on ?_); first
        | ((first | ((with_reducible refine AL.k_assign ?_); first | (refine AL.q rfl (OQ.assign (by conv => lhs; whnf)) ?_)) | ((with_reducible refine AL.k_load ?_); first | refine AL.q rfl (OQ.loadN (ty := 24) (n := 2) rfl (by kernel_rfl) (by kernel_rfl) rfl) ?_) | ((with_reducible refine AL.k_move ?_); first | (refine AL.q rfl (OQ.move (by conv => lhs; whnf)) ?_)) | ((with_reducible refine AL.k_extract ?_); first | refine AL.q rfl (OQ.extract rfl rfl) ?_) | ((with_reducible refine AL.k_binOp ?_); first | refine AL.q rfl (OQ.neq rfl rfl) ?_)); (conv => (arg 5; try tactic => exact nrm)))
        | ((first | ((with_reducible refine AL.k_call ?_); first | refine AL.pcall (g := 23) rfl (by kernel_rfl) rfl ((by first | exact HC _ _ (.blk 0 _ rfl rfl rfl) | exact HC _ _ (.nil h3 rfl) | exact HC _ _ (.lost h3 rfl))) ?_) | ((with_reducible refine AL.k_build ?_); first | refine AL.q rfl (OQ.buildA (ty := 27) (zs := [.int .i64 0, .int .i64 0, .int .i64 0, .int .i64 0, .int .i64 0, .int .i64 0, .int .i64 0, .int .i64 0, .int .i64 0]) (n := 1) (k := 9) (g := false) (by kernel_rfl) rfl (by kernel_rfl) rfl rfl rfl) ?_ | refine AL.q rfl (OQ.buildA (ty := 28) (zs := [.int .i64 0, .int .i64 0, .int .i64 0]) (n := 1) (k := 3) (g := false) (by kernel_rfl) rfl (by kernel_rfl) rfl rfl rfl) ?_)); (conv => (arg 5; try tactic => exact nrm)))
        | ((first | ((with_reducible refine AL.k_store ?_); first | (refine AL.w rfl (OW.store (ty := 71) (n := 2) rfl (by conv => lhs; whnf) rfl rfl (by kernel_rfl) rfl rfl (by decide) rfl (Nat.le_of_ble_eq_true rfl) (by intro r h; cases h)) ?_) | (refine AL.w rfl (OW.store (ty := 74) (n := 12) rfl (by conv => lhs; whnf) rfl rfl (by kernel_rfl) rfl rfl (by decide) rfl (Nat.le_of_ble_eq_true rfl) (by intro r h; cases h)) ?_) | (refine AL.w rfl (OW.store (ty := 27) (n := 9) rfl (by conv => lhs; whnf) rfl rfl (by kernel_rfl) rfl rfl (by decide) rfl (Nat.le_of_ble_eq_true rfl) (by intro r h; cases h)) ?_) | (refine AL.w rfl (OW.store (ty := 28) (n := 3) rfl (by conv => lhs; whnf) rfl rfl (by kernel_rfl) rfl rfl (by decide) rfl (Nat.le_of_ble_eq_true rfl) (by intro r h; cases h)) ?_)) | ((with_reducible refine AL.k_alloc ?_); first | refine AL.w rfl (OW.alloc (ty := 27) (z := [.int .i64 0, .int .i64 0, .int .i64 0, .int .i64 0, .int .i64 0, .int .i64 0, .int .i64 0, .int .i64 0, .int .i64 0]) (by kernel_rfl) rfl) ?_ | refine AL.w rfl (OW.alloc (ty := 28) (z := [.int .i64 0, .int .i64 0, .int .i64 0]) (by kernel_rfl) rfl) ?_ | refine AL.w rfl (OW.alloc (ty := 71) (z := [.slice none 0 0, .slice none 0 0]) (by kernel_rfl) rfl) ?_ | refine AL.w rfl (OW.alloc (ty := 74) (z := [.int .i64 0, .int .i64 0, .int .i64 0, .int .i64 0, .int .i64 0, .int .i64 0, .int .i64 0, .int .i64 0, .int .i64 0, .int .i64 0, .int .i64 0, .int .i64 0]) (by kernel_rfl) rfl) ?_) | ((with_reducible refine AL.k_box ?_); first | (refine AL.w rfl (OW.box (by conv => lhs; whnf) (by intro r h; cases h)) ?_))); (conv => (arg 5; try tactic => exact nrm)); (conv => (arg 6; try tactic => exact nrm)))
        | refine AL.nil ?_)
      | ((with_reducible refine AW.on ?_); first
        | refine AW.seq ?_
        | refine AW.skip ?_
        | refine AW.exit ?_
        | refine AW.ret ?_
        | refine AW.block ?_
        | (refine AW.drawF (id := 4) 16 #[0, 1, 3, 0, 8, 24, 0, 64, 192, 511, 1023, 2047, 4095, 0, 8192, 8191, 65535, 131071] (by kernel_rfl) (by kernel_rfl) ?_; (conv => (arg 8; simp only [List.take_succ_cons, List.take_zero])))
        | refine AW.region ?_
        | (refine AW.conds rfl (fun hc => ?_) (fun hc => ?_) <;> (try simp only [decide_eq_true_eq, decide_eq_false_iff_not, Bool.not_true, Bool.not_false, Bool.not_eq_true', Bool.not_eq_false', Int.not_lt, Int.not_le, Classical.not_not, ne_eq] at hc) <;> first | (exfalso; first | contradiction | (omega); done) | skip))
      | ((with_reducible refine AF.on ?_); first
        | ((first | ((with_reducible refine AF.k_fieldAddr ?_); first | refine AF.q 0 (SW.q (OQ.fieldA (ty := 74) (i := 0) (n := 9) (off := 0) (g := true) rfl (by kernel_rfl) (by decide)) rfl) ?_ | refine AF.q 0 (SW.q (OQ.fieldA (ty := 74) (i := 1) (n := 3) (off := 9) (g := true) rfl (by kernel_rfl) (by decide)) rfl) ?_) | ((with_reducible refine AF.k_indexAddr ?_); first | refine AF.q 0 (SW.q (OQ.idxPtr (ty := 72) (n := 3) (l := 3) (g := true) rfl rfl (by kernel_rfl) (by omega) (by omega)) rfl) ?_) | ((with_reducible refine AF.k_load ?_); first | refine AF.ql rfl (SW.q (OQ.loadN (ty := 27) (n := 9) rfl (by kernel_rfl) (by kernel_rfl) rfl) rfl) ?_ | refine AF.ql rfl (SW.q (OQ.loadN (ty := 28) (n := 3) rfl (by kernel_rfl) (by kernel_rfl) rfl) rfl) ?_) | refine AF.q 2 (SW.q (OQ.arrAt (ty := 27) (k := 9) (z := 1) (g := false) rfl (by kernel_rfl) (by omega) (by omega)) rfl) ?_); (conv => (arg 9; try tactic => exact nrmF)); (conv => (arg 11; try simp only [List.nil_append, List.cons_append])))
        | ((first | ((with_reducible refine AF.k_store ?_); first | (refine AF.sl rfl (SW.w (OW.store (ty := 27) (n := 9) rfl (by conv => lhs; whnf) rfl rfl (by kernel_rfl) rfl rfl (by decide) rfl (Nat.le_of_ble_eq_true rfl) (by intro r h; cases h)) rfl) rfl ?_)) | ((with_reducible refine AF.k_buildSlice ?_); first | refine AF.n1 0 (SW.w (OW.buildSl (ty := 105) (zs := [.slice none 0 0]) (n := 1) (g := false) (by kernel_rfl) (by kernel_rfl) rfl rfl rfl (by decide) (by decide) rfl rfl) rfl) rfl ?_)); (conv => (arg 9; try tactic => exact nrmF)); (conv => (arg 11; try simp only [List.nil_append, List.cons_append])); (conv => (arg 10; try tactic => exact nrmF)))
        | (refine AF.nil ?_ (by kernel_rfl); (conv => (arg 4; simp only [List.drop_succ_cons, List.drop_zero, List.drop_nil]))))
      | ((with_reducible refine FinP.on ?_); (first | refine FinP.ret (.cellN (n := 9) (by conv => lhs; whnf) (by kernel_rfl) (by kernel_rfl) rfl (.cellN (n := 3) (by conv => lhs; whnf) (by kernel_rfl) (by kernel_rfl) rfl (.tmp (by conv => lhs; whnf) .nil))) ?_ rfl | refine FinP.end (.cellN (n := 9) (by conv => lhs; whnf) (by kernel_rfl) (by kernel_rfl) rfl (.cellN (n := 3) (by conv => lhs; whnf) (by kernel_rfl) (by kernel_rfl) rfl (.tmp (by conv => lhs; whnf) .nil))) ?_ rfl); (try simp only [pack, List.drop, List.take]); all_goals (rfl)))
theorem RankOf_e {m : Mem} {v : Value} (c : Int) (hS : SlE m v l) (hn : nm.size ≤ 1000) (hl : l.length ≤ 1000) (hc : srE nm.data.toList l = c) (hc0 : c ≠ 0) :
    PCalls Tryd.prog 9 [srV nm v] m (.tuple #[.int .i64 0, .slice none 0 0, .int .i64 c]) := by
  have HC := fun (m : Mem) (v : Value) (hS : SlE m v l) => open_e nm c hS hn hl hc hc0
  refine Sh.up hS rfl rfl fun v m0 h => ?_
  have hro := h.ro
  rcases h with ⟨rfl, rfl, h3⟩ | ⟨rfl, rfl, h3⟩ | ⟨z, rfl, rfl⟩
  all_goals
    refine PCalls.enter (t := [srV nm _, undef, undef, undef, undef, undef, undef, undef, undef, undef, undef, undef, undef, undef, undef, undef, undef, undef, undef, undef, undef, undef, undef, undef, undef, undef, undef, undef, undef, undef, undef, undef, undef, undef, undef, undef, undef, undef, undef, undef, undef, undef, undef, undef, undef, undef, undef, undef]) Tryd.func9 rfl (hro) rfl fun E => ?_
    repeat' (first
      | with_reducible refine Then.n ?_
      | with_reducible refine Then.r ?_
      | with_reducible refine Then.x ?_
      | with_reducible refine InB.n ?_
      | with_reducible refine InB.r ?_
      | with_reducible refine InB.hit ?_
      | with_reducible refine InB.miss (by decide) ?_
      | ((with_reducible refine AL.on ?_); first
        | ((first | ((with_reducible refine AL.k_assign ?_); first | (refine AL.q rfl (OQ.assign (by conv => lhs; whnf)) ?_)) | ((with_reducible refine AL.k_move ?_); first | (refine AL.q rfl (OQ.move (by conv => lhs; whnf)) ?_)) | ((with_reducible refine AL.k_binOp ?_); first | refine AL.q rfl (OQ.neq rfl rfl) ?_ | refine AL.q rfl (OQ.lss rfl rfl) ?_ | refine AL.q rfl (OQ.eql rfl rfl) ?_ | refine AL.q rfl (OQ.addi rfl rfl (by omega)) ?_ | refine AL.q rfl (OQ.add rfl rfl) ?_) | ((with_reducible refine AL.k_load ?_); first | refine AL.q rfl (OQ.loadN (ty := 24) (n := 2) rfl (by kernel_rfl) (by kernel_rfl) rfl) ?_) | ((with_reducible refine AL.k_extract ?_); first | refine AL.q rfl (OQ.extract rfl rfl) ?_)); (conv => (arg 5; try tactic => exact nrm)))
        | ((first | first | refine AL.pcall (g := 23) rfl (by kernel_rfl) rfl ((by first | exact HC _ _ (.blk 0 _ rfl rfl rfl) | exact HC _ _ (.nil h3 rfl) | exact HC _ _ (.lost h3 rfl))) ?_); (conv => (arg 5; try tactic => exact nrm)))
        | ((first | ((with_reducible refine AL.k_call ?_); first | refine AL.w rfl (by first | exact OW.appendNil (e := 3) (z := 1) (zs := [.int .i64 0]) (by' := 8) rfl rfl (by kernel_rfl) (by kernel_rfl) (by kernel_rfl) rfl (by kernel_rfl) (by decide) rfl (by decide) (by decide) | exact OW.appendL (e := 3) (z := 1) (zs := [.int .i64 0]) (by' := 8) rfl rfl (by kernel_rfl) (by kernel_rfl) (by kernel_rfl) rfl (by kernel_rfl) (by decide) rfl rfl rfl (by decide) (by omega) rfl rfl (by omega) (by omega)) ?_) | ((with_reducible refine AL.k_alloc ?_); first | refine AL.w rfl (OW.alloc (ty := 71) (z := [.slice none 0 0, .slice none 0 0]) (by kernel_rfl) rfl) ?_ | refine AL.w rfl (OW.alloc (ty := 74) (z := [.int .i64 0, .int .i64 0, .int .i64 0, .int .i64 0, .int .i64 0, .int .i64 0, .int .i64 0, .int .i64 0, .int .i64 0, .int .i64 0, .int .i64 0, .int .i64 0]) (by kernel_rfl) rfl) ?_) | ((with_reducible refine AL.k_store ?_); first | (refine AL.w rfl (OW.store (ty := 71) (n := 2) rfl (by conv => lhs; whnf) rfl rfl (by kernel_rfl) rfl rfl (by decide) rfl (Nat.le_of_ble_eq_true rfl) (by intro r h; cases h)) ?_) | (refine AL.w rfl (OW.store (ty := 74) (n := 12) rfl (by conv => lhs; whnf) rfl rfl (by kernel_rfl) rfl rfl (by decide) rfl (Nat.le_of_ble_eq_true rfl) (by intro r h; cases h)) ?_)) | ((with_reducible refine AL.k_buildSlice ?_); first | refine AL.w rfl (OW.buildSl (ty := 33) (zs := [.int .i64 0]) (n := 1) (g := false) (by kernel_rfl) (by kernel_rfl) rfl rfl rfl (by decide) (by decide) rfl rfl) ?_) | ((with_reducible refine AL.k_box ?_); first | (refine AL.w rfl (OW.box (by conv => lhs; whnf) (by intro r h; cases h)) ?_))); (conv => (arg 5; try tactic => exact nrm)); (conv => (arg 6; try tactic => exact nrm)))
        | refine AL.nil ?_)
      | ((with_reducible refine AW.on ?_); first
        | refine AW.seq ?_
        | refine AW.skip ?_
        | refine AW.exit ?_
        | refine AW.ret ?_
        | refine AW.block ?_
        | (refine AW.drawF (id := 4) 2 #[0, 0, 3, 7] (by kernel_rfl) (by kernel_rfl) ?_; (conv => (arg 8; simp only [List.take_succ_cons, List.take_zero])))
        | (refine AW.drawF (id := 9) 14 #[0, 0, 2, 6, 14, 30, 0, 64, 192, 448, 960, 2046, 4095, 0, 16383] (by kernel_rfl) (by kernel_rfl) ?_; (conv => (arg 8; simp only [List.take_succ_cons, List.take_zero])))
        | refine AW.region ?_
        | (refine AW.conds rfl (fun hc => ?_) (fun hc => ?_) <;> (try simp only [decide_eq_true_eq, decide_eq_false_iff_not, Bool.not_true, Bool.not_false, Bool.not_eq_true', Bool.not_eq_false', Int.not_lt, Int.not_le, Classical.not_not, ne_eq] at hc) <;> first | (exfalso; first | contradiction | (omega); done) | skip))
      | ((with_reducible refine AF.on ?_); first
        | ((first | ((with_reducible refine AF.k_move ?_); first | (refine AF.q 0 (SW.q (OQ.move (by conv => lhs; whnf)) rfl) ?_)) | ((with_reducible refine AF.k_binOp ?_); first | refine AF.q 0 (SW.q (OQ.addi rfl rfl (by omega)) rfl) ?_ | refine AF.q 0 (SW.q (OQ.add rfl rfl) rfl) ?_ | refine AF.q 0 (SW.q (OQ.rem rfl rfl (by omega)) rfl) ?_) | ((with_reducible refine AF.k_load ?_); first | refine AF.ql rfl (SW.q (OQ.loadN (ty := 74) (n := 12) rfl (by kernel_rfl) (by kernel_rfl) rfl) rfl) ?_ | (refine AF.ql rfl (SW.q (OQ.load1 (ty := 3) rfl (by kernel_rfl) (by conv => lhs; whnf)) rfl) ?_)) | ((with_reducible refine AF.k_indexAddr ?_); first | refine AF.q 0 (SW.qG hG (OQG.idx (n := 1) (l := 3) (g := false) rfl (by kernel_rfl) (by omega) (by omega)) rfl) ?_) | refine AF.q 0 (SW.qG hG (OQG.slice (l := 0) (h := 3) (n := 3) (z := 1) (g := false) (by kernel_rfl) rfl rfl (by decide) (by decide) (by decide)) rfl) ?_); (conv => (arg 9; try tactic => exact nrmF)); (conv => (arg 11; try simp only [List.nil_append, List.cons_append])))
        | ((first | first | refine AF.n1 0 (SW.w (OW.buildSl (ty := 33) (zs := [.int .i64 0]) (n := 1) (g := false) (by kernel_rfl) (by kernel_rfl) rfl rfl rfl (by decide) (by decide) rfl rfl) rfl) rfl ?_); (conv => (arg 9; try tactic => exact nrmF)); (conv => (arg 11; try simp only [List.nil_append, List.cons_append])); (conv => (arg 10; try tactic => exact nrmF)))
        | (refine AF.nil ?_ (by kernel_rfl); (conv => (arg 4; simp only [List.drop_succ_cons, List.drop_zero, List.drop_nil]))))
      | ((with_reducible refine FinP.on ?_); (first | refine FinP.ret (.tmp (by conv => lhs; whnf) (.tmp (by conv => lhs; whnf) (.tmp (by conv => lhs; whnf) .nil))) ?_ rfl | refine FinP.end (.tmp (by conv => lhs; whnf) (.tmp (by conv => lhs; whnf) (.tmp (by conv => lhs; whnf) .nil))) ?_ rfl); (try simp only [pack, List.drop, List.take]); all_goals (rfl)))
theorem NormalOf_y (hn : nm.size ≤ 1000) (hR : SRight l) (hN : nameB nm.data.toList = true) (z0 : Nat) : PCalls Tryd.prog 7 [srI nm 0 l.length] [some ⟨flatE l, false, z0⟩] (.tuple #[.agg (nm9 (NM l)).toArray, .agg #[.int .i64 (NM l).p, .int .i64 (NM l).q, .int .i64 (NM l).r], .int .i64 0]) := by
  have HR := fun (m : Mem) (b : Nat) (blk : Blk) (hb : m.at b = some blk) (hc : blk.cells = flatE l) => open_q hn hR hN hb hc rfl
  generalize NM l = N at *
  refine PCalls.enter (t := [srI nm 0 l.length, undef, undef, undef, undef, undef, undef, undef, undef, undef, undef, undef, undef, undef, undef, undef, undef, undef, undef, undef, undef, undef, undef, undef, undef, undef, undef, undef, undef, undef, undef, undef, undef, undef]) Tryd.func7 rfl (ro1 _ rfl) rfl fun E => ?_
  repeat' (first
    | with_reducible refine Then.n ?_
    | with_reducible refine Then.r ?_
    | with_reducible refine Then.x ?_
    | with_reducible refine InB.n ?_
    | with_reducible refine InB.r ?_
    | with_reducible refine InB.hit ?_
    | with_reducible refine InB.miss (by decide) ?_
    | ((with_reducible refine AL.on ?_); first
      | ((first | ((with_reducible refine AL.k_assign ?_); first | (refine AL.q rfl (OQ.assign (by conv => lhs; whnf)) ?_)) | ((with_reducible refine AL.k_load ?_); first | refine AL.q rfl (OQ.loadN (ty := 24) (n := 2) rfl (by kernel_rfl) (by kernel_rfl) rfl) ?_) | ((with_reducible refine AL.k_move ?_); first | (refine AL.q rfl (OQ.move (by conv => lhs; whnf)) ?_)) | ((with_reducible refine AL.k_extract ?_); first | refine AL.q rfl (OQ.extract rfl rfl) ?_) | ((with_reducible refine AL.k_binOp ?_); first | refine AL.q rfl (OQ.neq rfl rfl) ?_)); (conv => (arg 5; try tactic => exact nrm)))
      | ((first | first | refine AL.q rfl (OQ.buildA (ty := 27) (zs := [.int .i64 0, .int .i64 0, .int .i64 0, .int .i64 0, .int .i64 0, .int .i64 0, .int .i64 0, .int .i64 0, .int .i64 0]) (n := 1) (k := 9) (g := false) (by kernel_rfl) rfl (by kernel_rfl) rfl rfl rfl) ?_ | refine AL.q rfl (OQ.buildA (ty := 28) (zs := [.int .i64 0, .int .i64 0, .int .i64 0]) (n := 1) (k := 3) (g := false) (by kernel_rfl) rfl (by kernel_rfl) rfl rfl rfl) ?_); (conv => (arg 5; try tactic => exact nrm)))
      | ((first | ((with_reducible refine AL.k_store ?_); first | (refine AL.w rfl (OW.store (ty := 71) (n := 2) rfl (by conv => lhs; whnf) rfl rfl (by kernel_rfl) rfl rfl (by decide) rfl (Nat.le_of_ble_eq_true rfl) (by intro r h; cases h)) ?_) | (refine AL.w rfl (OW.store (ty := 74) (n := 12) rfl (by conv => lhs; whnf) rfl rfl (by kernel_rfl) rfl rfl (by decide) rfl (Nat.le_of_ble_eq_true rfl) (by intro r h; cases h)) ?_) | (refine AL.w rfl (OW.store (ty := 27) (n := 9) rfl (by conv => lhs; whnf) rfl rfl (by kernel_rfl) rfl rfl (by decide) rfl (Nat.le_of_ble_eq_true rfl) (by intro r h; cases h)) ?_) | (refine AL.w rfl (OW.store (ty := 28) (n := 3) rfl (by conv => lhs; whnf) rfl rfl (by kernel_rfl) rfl rfl (by decide) rfl (Nat.le_of_ble_eq_true rfl) (by intro r h; cases h)) ?_)) | ((with_reducible refine AL.k_alloc ?_); first | refine AL.w rfl (OW.alloc (ty := 27) (z := [.int .i64 0, .int .i64 0, .int .i64 0, .int .i64 0, .int .i64 0, .int .i64 0, .int .i64 0, .int .i64 0, .int .i64 0]) (by kernel_rfl) rfl) ?_ | refine AL.w rfl (OW.alloc (ty := 28) (z := [.int .i64 0, .int .i64 0, .int .i64 0]) (by kernel_rfl) rfl) ?_ | refine AL.w rfl (OW.alloc (ty := 71) (z := [.slice none 0 0, .slice none 0 0]) (by kernel_rfl) rfl) ?_ | refine AL.w rfl (OW.alloc (ty := 74) (z := [.int .i64 0, .int .i64 0, .int .i64 0, .int .i64 0, .int .i64 0, .int .i64 0, .int .i64 0, .int .i64 0, .int .i64 0, .int .i64 0, .int .i64 0, .int .i64 0]) (by kernel_rfl) rfl) ?_) | ((with_reducible refine AL.k_call ?_); first | refine AL.acall (g := 23) rfl (by kernel_rfl) rfl ((by exact HR _ 0 _ rfl rfl)) ?_) | ((with_reducible refine AL.k_box ?_); first | (refine AL.w rfl (OW.box (by conv => lhs; whnf) (by intro r h; cases h)) ?_))); (conv => (arg 5; try tactic => exact nrm)); (conv => (arg 6; try tactic => exact nrm)))
      | refine AL.nil ?_)
    | ((with_reducible refine AW.on ?_); first
      | refine AW.seq ?_
      | refine AW.skip ?_
      | refine AW.exit ?_
      | refine AW.ret ?_
      | refine AW.block ?_
      | (refine AW.drawF (id := 4) 16 #[0, 1, 3, 0, 8, 24, 0, 64, 192, 511, 1023, 2047, 4095, 0, 8192, 8191, 65535, 131071] (by kernel_rfl) (by kernel_rfl) ?_; (conv => (arg 8; simp only [List.take_succ_cons, List.take_zero])))
      | (refine AW.region (id := 3) ?_; exfalso; first | omega | (simp at *; done); done)
      | refine AW.region ?_
      | (refine AW.conds rfl (fun hc => ?_) (fun hc => ?_) <;> (try simp only [decide_eq_true_eq, decide_eq_false_iff_not, Bool.not_true, Bool.not_false, Bool.not_eq_true', Bool.not_eq_false', Int.not_lt, Int.not_le, Classical.not_not, ne_eq] at hc) <;> first | (exfalso; first | contradiction | (first | omega | (simp at *; done)); done) | skip))
    | ((with_reducible refine AF.on ?_); first
      | ((first | ((with_reducible refine AF.k_fieldAddr ?_); first | refine AF.q 0 (SW.q (OQ.fieldA (ty := 74) (i := 0) (n := 9) (off := 0) (g := true) rfl (by kernel_rfl) (by decide)) rfl) ?_ | refine AF.q 0 (SW.q (OQ.fieldA (ty := 74) (i := 1) (n := 3) (off := 9) (g := true) rfl (by kernel_rfl) (by decide)) rfl) ?_) | ((with_reducible refine AF.k_indexAddr ?_); first | refine AF.q 0 (SW.q (OQ.idxPtr (ty := 72) (n := 3) (l := 3) (g := true) rfl rfl (by kernel_rfl) (by omega) (by omega)) rfl) ?_) | ((with_reducible refine AF.k_load ?_); first | refine AF.ql rfl (SW.q (OQ.loadN (ty := 27) (n := 9) rfl (by kernel_rfl) (by kernel_rfl) rfl) rfl) ?_ | refine AF.ql rfl (SW.q (OQ.loadN (ty := 28) (n := 3) rfl (by kernel_rfl) (by kernel_rfl) rfl) rfl) ?_) | refine AF.q 2 (SW.q (OQ.sliceA (ty := 28) (l := 0) (h := 3) (n := 3) (z := 1) (g := false) rfl (by kernel_rfl) rfl rfl rfl rfl (by decide) (by decide) (by decide)) rfl) ?_ | refine AF.q 2 (SW.q (OQ.arrAt (ty := 27) (k := 9) (z := 1) (g := false) rfl (by kernel_rfl) (by omega) (by omega)) rfl) ?_); (conv => (arg 9; try tactic => exact nrmF)); (conv => (arg 11; try simp only [List.nil_append, List.cons_append])))
      | ((first | ((with_reducible refine AF.k_store ?_); first | (refine AF.sl rfl (SW.w (OW.store (ty := 27) (n := 9) rfl (by conv => lhs; whnf) rfl rfl (by kernel_rfl) rfl rfl (by decide) rfl (Nat.le_of_ble_eq_true rfl) (by intro r h; cases h)) rfl) rfl ?_)) | ((with_reducible refine AF.k_call ?_); first | refine AF.n1 2 (SW.acall (g := 24) rfl (by kernel_rfl) rfl ((ConcatI_q N _ _ _ rfl rfl rfl rfl)) rfl) rfl ?_) | ((with_reducible refine AF.k_buildSlice ?_); first | refine AF.n1 0 (SW.w (OW.buildSl (ty := 105) (zs := [.slice none 0 0]) (n := 1) (g := false) (by kernel_rfl) (by kernel_rfl) rfl rfl rfl (by decide) (by decide) rfl rfl) rfl) rfl ?_)); (conv => (arg 9; try tactic => exact nrmF)); (conv => (arg 11; try simp only [List.nil_append, List.cons_append])); (conv => (arg 10; try tactic => exact nrmF)))
      | (refine AF.nil ?_ (by kernel_rfl); (conv => (arg 4; simp only [List.drop_succ_cons, List.drop_zero, List.drop_nil]))))
    | ((with_reducible refine FinP.on ?_); (first | refine FinP.ret (.cellN (n := 9) (by conv => lhs; whnf) (by kernel_rfl) (by kernel_rfl) rfl (.cellN (n := 3) (by conv => lhs; whnf) (by kernel_rfl) (by kernel_rfl) rfl (.tmp (by conv => lhs; whnf) .nil))) ?_ rfl | refine FinP.end (.cellN (n := 9) (by conv => lhs; whnf) (by kernel_rfl) (by kernel_rfl) rfl (.cellN (n := 3) (by conv => lhs; whnf) (by kernel_rfl) (by kernel_rfl) rfl (.tmp (by conv => lhs; whnf) .nil))) ?_ rfl); (try simp only [pack, List.drop, List.take]); all_goals (rfl)))
end
end Go.Proofs.YthgbincoppnpgaaDoor
