/- Chapter 8: observations. -/
import Derived.Test.YtmghmmmfdbafoaaGreatDoor08d
import Derived.Test.YtmghmmmfdbafoaaGreatDoor08F
import Derived.Test.YtmghmmmfdbafoaaGreatDoorAbN
set_option linter.unusedSimpArgs false
set_option linter.unusedVariables false
namespace Go.Proofs.YtmghmmmfdbafoaaGreatDoor
open Go Go.RowKit Go.Ab Go.Sr
set_option maxRecDepth 100000
set_option maxHeartbeats 1000000
attribute [local irreducible] OQ OW AL AW AD AF SW

theorem add_nil (v x y z : Int) (e c : Nat) : ACalls Tryz.prog 73 [.pointer (some ⟨0, 0, none⟩), .int .i64 v, .slice (some ⟨1, 0, none⟩) 3 c] [some ⟨[.slice none 0 0, .slice none 0 0], true, 0⟩, some ⟨[.int .i64 x, .int .i64 y, .int .i64 z], false, e⟩]
    (.tuple #[]) [some ⟨[.slice (some ⟨2, 0, none⟩) 1 INF, .slice (some ⟨3, 0, none⟩) 1 INF], true, 0⟩, some ⟨[.int .i64 x, .int .i64 y, .int .i64 z], false, e⟩, some ⟨[.int .i64 x, .int .i64 y, .int .i64 z], true, 3⟩, some ⟨[.int .i64 v], true, 1⟩] := by
  refine ACalls.enter (t := [.pointer (some ⟨0, 0, none⟩), .int .i64 v, .slice (some ⟨1, 0, none⟩) 3 c, undef, undef, undef, undef, undef, undef, undef, undef, undef, undef, undef, undef, undef, undef, undef, undef, undef, undef, undef, undef, undef, undef, undef, undef, undef]) Tryz.func73 rfl rfl fun E hE => ?_
  repeat' (first
    | with_reducible refine Then.n ?_
    | with_reducible refine Then.r ?_
    | with_reducible refine Then.x ?_
    | with_reducible refine InB.n ?_
    | with_reducible refine InB.r ?_
    | with_reducible refine InB.hit ?_
    | with_reducible refine InB.miss (by decide) ?_
    | ((with_reducible refine AL.on ?_); first
      | ((first | ((with_reducible refine AL.k_fieldAddr ?_); first | refine AL.q rfl (OQ.fieldA (ty := 85) (i := 1) (n := 1) (off := 1) (g := false) rfl (by kernel_rfl) (by decide)) ?_) | refine AL.q rfl (OQ.nilCheck rfl) ?_); (conv => (arg 5; try tactic => exact nrm)))
      | ((first | first | (refine AL.w rfl (OW.store (ty := 83) (n := 1) rfl (by conv => lhs; whnf) rfl rfl (by kernel_rfl) rfl rfl (by decide) rfl (Nat.le_of_ble_eq_true rfl) (by intro r h; cases h)) ?_)); (conv => (arg 5; try tactic => exact nrm)); (conv => (arg 6; try tactic => exact nrm)))
      | refine AL.nil ?_)
    | ((with_reducible refine AW.on ?_); first
      | refine AW.seq ?_
      | refine AW.skip ?_
      | refine AW.exit ?_
      | refine AW.ret ?_
      | refine AW.block ?_
      | (refine AW.drawF (id := 0) 21 #[0, 0, 0, 4, 12, 28, 0, 64, 192, 448, 1020, 0, 2048, 6144, 14336, 0, 32768, 131068, 262141, 524285, 1048573, 2097151, 4194303, 8388607] (by kernel_rfl) (by kernel_rfl) ?_; (conv => (arg 8; simp only [List.take_succ_cons, List.take_zero])))
      | refine AW.region ?_
      | (refine AW.conds rfl (fun hc => ?_) (fun hc => ?_) <;> (try simp only [decide_eq_true_eq, decide_eq_false_iff_not, Bool.not_true, Bool.not_false, Bool.not_eq_true', Bool.not_eq_false', Int.not_lt, Int.not_le, Classical.not_not, ne_eq] at hc) <;> first | (exfalso; first | contradiction | (omega); done) | skip))
    | ((with_reducible refine AF.on ?_); first
      | ((first | ((with_reducible refine AF.k_move ?_); first | (refine AF.q 0 (SW.q (OQ.move (by conv => lhs; whnf)) rfl) ?_)) | ((with_reducible refine AF.k_fieldAddr ?_); first | refine AF.q 0 (SW.q (OQ.fieldA (ty := 85) (i := 0) (n := 1) (off := 0) (g := false) rfl (by kernel_rfl) (by decide)) rfl) ?_ | refine AF.q 0 (SW.q (OQ.fieldA (ty := 85) (i := 1) (n := 1) (off := 1) (g := false) rfl (by kernel_rfl) (by decide)) rfl) ?_) | ((with_reducible refine AF.k_load ?_); first | (refine AF.ql rfl (SW.q (OQ.load1 (ty := 82) rfl (by kernel_rfl) (by conv => lhs; whnf)) rfl) ?_) | refine AF.ql rfl (SW.q (OQ.loadN (ty := 86) (n := 3) rfl (by kernel_rfl) (by kernel_rfl) rfl) rfl) ?_ | (refine AF.ql rfl (SW.q (OQ.load1 (ty := 83) rfl (by kernel_rfl) (by conv => lhs; whnf)) rfl) ?_)) | refine AF.q 1 (SW.q (OQ.nilCheck rfl) rfl) ?_ | refine AF.q 2 (SW.q (OQ.nilCheck rfl) rfl) ?_ | refine AF.q 2 (SW.q (OQ.arrAt (ty := 86) (k := 3) (z := 1) (g := false) rfl (by kernel_rfl) (by omega) (by omega)) rfl) ?_); (conv => (arg 9; try tactic => exact nrmF)); (conv => (arg 11; try simp only [List.nil_append, List.cons_append])))
      | ((first | ((with_reducible refine AF.k_buildSlice ?_); first | refine AF.n1 0 (SW.w (OW.buildSl (ty := 82) (zs := [.int .i64 0, .int .i64 0, .int .i64 0]) (n := 3) (g := true) (by kernel_rfl) (by kernel_rfl) rfl rfl rfl (by decide) (by decide) rfl rfl) rfl) rfl ?_ | refine AF.n1 0 (SW.w (OW.buildSl (ty := 83) (zs := [.int .i64 0]) (n := 1) (g := false) (by kernel_rfl) (by kernel_rfl) rfl rfl rfl (by decide) (by decide) rfl rfl) rfl) rfl ?_) | ((with_reducible refine AF.k_call ?_); first | refine AF.al rfl (SW.w (by first | exact OW.appendNil (e := 86) (z := 3) (zs := [.int .i64 0, .int .i64 0, .int .i64 0]) (by' := 24) rfl rfl (by kernel_rfl) (by kernel_rfl) (by kernel_rfl) rfl (by kernel_rfl) (by decide) rfl (by decide) (by decide) | exact OW.appendL (e := 86) (z := 3) (zs := [.int .i64 0, .int .i64 0, .int .i64 0]) (by' := 24) rfl rfl (by kernel_rfl) (by kernel_rfl) (by kernel_rfl) rfl (by kernel_rfl) (by decide) rfl rfl rfl (by decide) (by omega) rfl rfl (by omega) (by omega)) rfl) rfl ?_ | refine AF.al rfl (SW.w (by first | exact OW.appendNil (e := 3) (z := 1) (zs := [.int .i64 0]) (by' := 8) rfl rfl (by kernel_rfl) (by kernel_rfl) (by kernel_rfl) rfl (by kernel_rfl) (by decide) rfl (by decide) (by decide) | exact OW.appendL (e := 3) (z := 1) (zs := [.int .i64 0]) (by' := 8) rfl rfl (by kernel_rfl) (by kernel_rfl) (by kernel_rfl) rfl (by kernel_rfl) (by decide) rfl rfl rfl (by decide) (by omega) rfl rfl (by omega) (by omega)) rfl) rfl ?_ | refine AF.n1 2 (SW.w (by first | exact OW.appendNil (e := 86) (z := 3) (zs := [.int .i64 0, .int .i64 0, .int .i64 0]) (by' := 24) rfl rfl (by kernel_rfl) (by kernel_rfl) (by kernel_rfl) rfl (by kernel_rfl) (by decide) rfl (by decide) (by decide) | exact OW.appendL (e := 86) (z := 3) (zs := [.int .i64 0, .int .i64 0, .int .i64 0]) (by' := 24) rfl rfl (by kernel_rfl) (by kernel_rfl) (by kernel_rfl) rfl (by kernel_rfl) (by decide) rfl rfl rfl (by decide) (by omega) rfl rfl (by omega) (by omega)) rfl) rfl ?_ | refine AF.n1 2 (SW.w (by first | exact OW.appendNil (e := 3) (z := 1) (zs := [.int .i64 0]) (by' := 8) rfl rfl (by kernel_rfl) (by kernel_rfl) (by kernel_rfl) rfl (by kernel_rfl) (by decide) rfl (by decide) (by decide) | exact OW.appendL (e := 3) (z := 1) (zs := [.int .i64 0]) (by' := 8) rfl rfl (by kernel_rfl) (by kernel_rfl) (by kernel_rfl) rfl (by kernel_rfl) (by decide) rfl rfl rfl (by decide) (by omega) rfl rfl (by omega) (by omega)) rfl) rfl ?_) | ((with_reducible refine AF.k_store ?_); first | (refine AF.sl rfl (SW.w (OW.store (ty := 82) (n := 1) rfl (by conv => lhs; whnf) rfl rfl (by kernel_rfl) rfl rfl (by decide) rfl (Nat.le_of_ble_eq_true rfl) (by intro r h; cases h)) rfl) rfl ?_))); (conv => (arg 9; try tactic => exact nrmF)); (conv => (arg 11; try simp only [List.nil_append, List.cons_append])); (conv => (arg 10; try tactic => exact nrmF)))
      | (refine AF.nil ?_ (by kernel_rfl); (conv => (arg 4; simp only [List.drop_succ_cons, List.drop_zero, List.drop_nil]))))
    | ((with_reducible refine FinA.on ?_); (refine FinA.keep 2 [3, 5] (.inr rfl) .nil ?_ rfl (Nat.le_of_eq hE) rfl rfl ⟨⟨_, rfl, rfl, rfl, .inr ⟨rfl, rfl⟩⟩, ⟨_, rfl, rfl, rfl, .inl ⟨rfl, rfl⟩⟩, ⟨_, rfl, rfl, rfl, .inl ⟨rfl, rfl⟩⟩, ⟨_, rfl, rfl, rfl, .inl ⟨rfl, rfl⟩⟩, trivial⟩; rfl)))

theorem add_more (F : List V3) (V : List Int) (v x y z : Int) (e c : Nat) (hF : F.length ≤ 1000) (hV : V.length ≤ 1000) : ACalls Tryz.prog 73 [.pointer (some ⟨0, 0, none⟩), .int .i64 v, .slice (some ⟨1, 0, none⟩) 3 c] [some ⟨[.slice (some ⟨2, 0, none⟩) F.length INF, .slice (some ⟨3, 0, none⟩) V.length INF], true, 0⟩, some ⟨[.int .i64 x, .int .i64 y, .int .i64 z], false, e⟩, some ⟨flatV F, true, 3⟩, some ⟨flatI V, true, 1⟩]
    (.tuple #[]) [some ⟨[.slice (some ⟨4, 0, none⟩) (F.length + 1) INF, .slice (some ⟨5, 0, none⟩) (V.length + 1) INF], true, 0⟩, some ⟨[.int .i64 x, .int .i64 y, .int .i64 z], false, e⟩, none, none, some ⟨flatV (F ++ [(x, y, z)]), true, 3⟩, some ⟨flatI (V ++ [v]), true, 1⟩] := by
  refine ACalls.enter (t := [.pointer (some ⟨0, 0, none⟩), .int .i64 v, .slice (some ⟨1, 0, none⟩) 3 c, undef, undef, undef, undef, undef, undef, undef, undef, undef, undef, undef, undef, undef, undef, undef, undef, undef, undef, undef, undef, undef, undef, undef, undef, undef]) Tryz.func73 rfl rfl fun E hE => ?_
  repeat' (first
    | with_reducible refine Then.n ?_
    | with_reducible refine Then.r ?_
    | with_reducible refine Then.x ?_
    | with_reducible refine InB.n ?_
    | with_reducible refine InB.r ?_
    | with_reducible refine InB.hit ?_
    | with_reducible refine InB.miss (by decide) ?_
    | ((with_reducible refine AL.on ?_); first
      | ((first | ((with_reducible refine AL.k_fieldAddr ?_); first | refine AL.q rfl (OQ.fieldA (ty := 85) (i := 1) (n := 1) (off := 1) (g := false) rfl (by kernel_rfl) (by decide)) ?_) | refine AL.q rfl (OQ.nilCheck rfl) ?_); (conv => (arg 5; try tactic => exact nrm)))
      | ((first | first | (refine AL.w rfl (OW.store (ty := 83) (n := 1) rfl (by conv => lhs; whnf) rfl rfl (by kernel_rfl) rfl rfl (by decide) rfl (Nat.le_of_ble_eq_true rfl) (by intro r h; cases h)) ?_)); (conv => (arg 5; try tactic => exact nrm)); (conv => (arg 6; try tactic => exact nrm)))
      | refine AL.nil ?_)
    | ((with_reducible refine AW.on ?_); first
      | refine AW.seq ?_
      | refine AW.skip ?_
      | refine AW.exit ?_
      | refine AW.ret ?_
      | refine AW.block ?_
      | (refine AW.drawF (id := 0) 21 #[0, 0, 0, 4, 12, 28, 0, 64, 192, 448, 1020, 0, 2048, 6144, 14336, 0, 32768, 131068, 262141, 524285, 1048573, 2097151, 4194303, 8388607] (by kernel_rfl) (by kernel_rfl) ?_; (conv => (arg 8; simp only [List.take_succ_cons, List.take_zero])))
      | refine AW.region ?_
      | (refine AW.conds rfl (fun hc => ?_) (fun hc => ?_) <;> (try simp only [decide_eq_true_eq, decide_eq_false_iff_not, Bool.not_true, Bool.not_false, Bool.not_eq_true', Bool.not_eq_false', Int.not_lt, Int.not_le, Classical.not_not, ne_eq] at hc) <;> first | (exfalso; first | contradiction | (omega); done) | skip))
    | ((with_reducible refine AF.on ?_); first
      | ((first | ((with_reducible refine AF.k_move ?_); first | (refine AF.q 0 (SW.q (OQ.move (by conv => lhs; whnf)) rfl) ?_)) | ((with_reducible refine AF.k_fieldAddr ?_); first | refine AF.q 0 (SW.q (OQ.fieldA (ty := 85) (i := 0) (n := 1) (off := 0) (g := false) rfl (by kernel_rfl) (by decide)) rfl) ?_ | refine AF.q 0 (SW.q (OQ.fieldA (ty := 85) (i := 1) (n := 1) (off := 1) (g := false) rfl (by kernel_rfl) (by decide)) rfl) ?_) | ((with_reducible refine AF.k_load ?_); first | (refine AF.ql rfl (SW.q (OQ.load1 (ty := 82) rfl (by kernel_rfl) (by conv => lhs; whnf)) rfl) ?_) | refine AF.ql rfl (SW.q (OQ.loadN (ty := 86) (n := 3) rfl (by kernel_rfl) (by kernel_rfl) rfl) rfl) ?_ | (refine AF.ql rfl (SW.q (OQ.load1 (ty := 83) rfl (by kernel_rfl) (by conv => lhs; whnf)) rfl) ?_)) | refine AF.q 1 (SW.q (OQ.nilCheck rfl) rfl) ?_ | refine AF.q 2 (SW.q (OQ.nilCheck rfl) rfl) ?_ | refine AF.q 2 (SW.q (OQ.arrAt (ty := 86) (k := 3) (z := 1) (g := false) rfl (by kernel_rfl) (by omega) (by omega)) rfl) ?_); (conv => (arg 9; try tactic => exact nrmF)); (conv => (arg 11; try simp only [List.nil_append, List.cons_append])))
      | ((first | ((with_reducible refine AF.k_buildSlice ?_); first | refine AF.n1 0 (SW.w (OW.buildSl (ty := 82) (zs := [.int .i64 0, .int .i64 0, .int .i64 0]) (n := 3) (g := true) (by kernel_rfl) (by kernel_rfl) rfl rfl rfl (by decide) (by decide) rfl rfl) rfl) rfl ?_ | refine AF.n1 0 (SW.w (OW.buildSl (ty := 83) (zs := [.int .i64 0]) (n := 1) (g := false) (by kernel_rfl) (by kernel_rfl) rfl rfl rfl (by decide) (by decide) rfl rfl) rfl) rfl ?_) | ((with_reducible refine AF.k_call ?_); first | refine AF.al rfl (SW.w (by first | exact OW.appendNil (e := 86) (z := 3) (zs := [.int .i64 0, .int .i64 0, .int .i64 0]) (by' := 24) rfl rfl (by kernel_rfl) (by kernel_rfl) (by kernel_rfl) rfl (by kernel_rfl) (by decide) rfl (by decide) (by decide) | exact OW.appendL (e := 86) (z := 3) (zs := [.int .i64 0, .int .i64 0, .int .i64 0]) (by' := 24) rfl rfl (by kernel_rfl) (by kernel_rfl) (by kernel_rfl) rfl (by kernel_rfl) (by decide) rfl rfl rfl (by decide) (by first | exact flatV_len _ | exact flatI_len _) rfl rfl (by omega) (by omega)) rfl) rfl ?_ | refine AF.al rfl (SW.w (by first | exact OW.appendNil (e := 3) (z := 1) (zs := [.int .i64 0]) (by' := 8) rfl rfl (by kernel_rfl) (by kernel_rfl) (by kernel_rfl) rfl (by kernel_rfl) (by decide) rfl (by decide) (by decide) | exact OW.appendL (e := 3) (z := 1) (zs := [.int .i64 0]) (by' := 8) rfl rfl (by kernel_rfl) (by kernel_rfl) (by kernel_rfl) rfl (by kernel_rfl) (by decide) rfl rfl rfl (by decide) (by first | exact flatV_len _ | exact flatI_len _) rfl rfl (by omega) (by omega)) rfl) rfl ?_ | refine AF.n1 2 (SW.w (by first | exact OW.appendNil (e := 86) (z := 3) (zs := [.int .i64 0, .int .i64 0, .int .i64 0]) (by' := 24) rfl rfl (by kernel_rfl) (by kernel_rfl) (by kernel_rfl) rfl (by kernel_rfl) (by decide) rfl (by decide) (by decide) | exact OW.appendL (e := 86) (z := 3) (zs := [.int .i64 0, .int .i64 0, .int .i64 0]) (by' := 24) rfl rfl (by kernel_rfl) (by kernel_rfl) (by kernel_rfl) rfl (by kernel_rfl) (by decide) rfl rfl rfl (by decide) (by first | exact flatV_len _ | exact flatI_len _) rfl rfl (by omega) (by omega)) rfl) rfl ?_ | refine AF.n1 2 (SW.w (by first | exact OW.appendNil (e := 3) (z := 1) (zs := [.int .i64 0]) (by' := 8) rfl rfl (by kernel_rfl) (by kernel_rfl) (by kernel_rfl) rfl (by kernel_rfl) (by decide) rfl (by decide) (by decide) | exact OW.appendL (e := 3) (z := 1) (zs := [.int .i64 0]) (by' := 8) rfl rfl (by kernel_rfl) (by kernel_rfl) (by kernel_rfl) rfl (by kernel_rfl) (by decide) rfl rfl rfl (by decide) (by first | exact flatV_len _ | exact flatI_len _) rfl rfl (by omega) (by omega)) rfl) rfl ?_) | ((with_reducible refine AF.k_store ?_); first | (refine AF.sl rfl (SW.w (OW.store (ty := 82) (n := 1) rfl (by conv => lhs; whnf) rfl rfl (by kernel_rfl) rfl rfl (by decide) rfl (Nat.le_of_ble_eq_true rfl) (by intro r h; cases h)) rfl) rfl ?_))); (conv => (arg 9; try tactic => exact nrmF)); (conv => (arg 11; try simp only [List.nil_append, List.cons_append])); (conv => (arg 10; try tactic => exact nrmF)))
      | (refine AF.nil ?_ (by kernel_rfl); (conv => (arg 4; simp only [List.drop_succ_cons, List.drop_zero, List.drop_nil]))))
    | ((with_reducible refine FinA.on ?_); (refine FinA.keep 4 [5, 7] (.inr rfl) .nil ?_ rfl (Nat.le_of_eq hE) rfl rfl ⟨⟨_, rfl, rfl, rfl, .inr ⟨rfl, rfl⟩⟩, ⟨_, rfl, rfl, rfl, .inl ⟨rfl, rfl⟩⟩, ⟨_, rfl, rfl, rfl, .inl ⟨flatV_snoc _ _, flatV_scal _⟩⟩, ⟨_, rfl, rfl, rfl, .inl ⟨flatI_snoc _ _, flatI_scal _⟩⟩, trivial⟩; rfl)))

theorem add_0 {m : Mem} {r a : Nat} {o : Bool} {e c : Nat} (v x y z : Int) (hr : m.at r = some ⟨[.slice none 0 0, .slice none 0 0], true, 0⟩) (ha : m.at a = some ⟨[.int .i64 x, .int .i64 y, .int .i64 z], o, e⟩) (hne : r ≠ a) :
    ACalls Tryz.prog 73 [.pointer (some ⟨r, 0, none⟩), .int .i64 v, .slice (some ⟨a, 0, none⟩) 3 c] m (.tuple #[])
      (setAll m [(r, some ⟨[.slice (some ⟨m.length, 0, none⟩) 1 INF, .slice (some ⟨m.length + 1, 0, none⟩) 1 INF], true, 0⟩)] ++ [some ⟨flatV [(x, y, z)], true, 3⟩, some ⟨flatI [v], true, 1⟩]) := by
  refine ACalls.viaS [r, a] _ _ (add_nil v x y z e c) ⟨⟨_, hr, rfl, fun _ => rfl, .inl ⟨rfl, rfl⟩⟩, ⟨_, ha, rfl, (fun h => nomatch h), .inl ⟨rfl, rfl⟩⟩, trivial⟩ (by simp [hne]) ?_ rfl rfl rfl rfl
  exact ⟨rfl, ⟨rfl, rfl, rfl, .inr ⟨by simp [rn1, τn], rfl⟩⟩, ⟨_, rfl, rfl⟩, ⟨rfl, rfl, rfl, .inl ⟨rfl, rfl⟩⟩, ⟨rfl, rfl, rfl, .inl ⟨rfl, rfl⟩⟩, trivial⟩
theorem add_1 {m : Mem} {r a f g : Nat} {o : Bool} {e c : Nat} (F : List V3) (V : List Int) (v x y z : Int) (hF : F.length ≤ 1000) (hV : V.length ≤ 1000) (hr : m.at r = some ⟨[.slice (some ⟨f, 0, none⟩) F.length INF, .slice (some ⟨g, 0, none⟩) V.length INF], true, 0⟩) (ha : m.at a = some ⟨[.int .i64 x, .int .i64 y, .int .i64 z], o, e⟩)
    (hf : m.at f = some ⟨flatV F, true, 3⟩) (hg : m.at g = some ⟨flatI V, true, 1⟩) (hn : [r, a, f, g].Nodup) :
    ACalls Tryz.prog 73 [.pointer (some ⟨r, 0, none⟩), .int .i64 v, .slice (some ⟨a, 0, none⟩) 3 c] m (.tuple #[])
      (setAll m [(r, some ⟨[.slice (some ⟨m.length, 0, none⟩) (F.length + 1) INF, .slice (some ⟨m.length + 1, 0, none⟩) (V.length + 1) INF], true, 0⟩), (f, none), (g, none)] ++ [some ⟨flatV (F ++ [(x, y, z)]), true, 3⟩, some ⟨flatI (V ++ [v]), true, 1⟩]) := by
  refine ACalls.viaS [r, a, f, g] _ _ (add_more F V v x y z e c hF hV) ⟨⟨_, hr, rfl, fun _ => rfl, .inr ⟨by simp [rn1], rfl⟩⟩, ⟨_, ha, rfl, (fun h => nomatch h), .inl ⟨rfl, rfl⟩⟩, ⟨_, hf, rfl, fun _ => rfl, .inl ⟨rfl, flatV_scal _⟩⟩, ⟨_, hg, rfl, fun _ => rfl, .inl ⟨rfl, flatI_scal _⟩⟩, trivial⟩ hn ?_ rfl rfl rfl rfl
  exact ⟨rfl, ⟨rfl, rfl, rfl, .inr ⟨by simp [rn1, τn], rfl⟩⟩, ⟨_, rfl, rfl⟩, rfl, trivial, rfl, trivial, ⟨rfl, rfl, rfl, .inl ⟨rfl, flatV_scal _⟩⟩, ⟨rfl, rfl, rfl, .inl ⟨rfl, flatI_scal _⟩⟩, trivial⟩

/-- The observations of the first dates. -/
def rwT (l : List Ep) (k : Nat) : List V3 := (l.take k).map fun e => (e.d - (ep l 0).d, e.b, 1)
def rwP (l : List Ep) (k : Nat) : List Int := (l.take k).map fun e => e.p
theorem take_ep (l : List Ep) (k : Nat) (h : k < l.length) : l.take (k + 1) = l.take k ++ [ep l k] := by
  rw [List.take_add_one, List.getElem?_eq_getElem h, Option.toList_some]
  unfold ep
  rw [List.getD_eq_getElem?_getD, List.getElem?_eq_getElem h]
  rfl
theorem rwT_succ (l : List Ep) (k : Nat) (h : k < l.length) : rwT l (k + 1) = rwT l k ++ [((ep l k).d - (ep l 0).d, (ep l k).b, 1)] := by
  unfold rwT
  rw [take_ep l k h, List.map_append]
  rfl
theorem rwP_succ (l : List Ep) (k : Nat) (h : k < l.length) : rwP l (k + 1) = rwP l k ++ [(ep l k).p] := by
  unfold rwP
  rw [take_ep l k h, List.map_append]
  rfl
theorem rwT_len (l : List Ep) (k : Nat) (h : k ≤ l.length) : (rwT l k).length = k := by simp [rwT]; omega
theorem rwP_len (l : List Ep) (k : Nat) (h : k ≤ l.length) : (rwP l k).length = k := by simp [rwP]; omega
abbrev srV (nm : ByteArray) (v : Value) : Value := .agg #[.string nm, v]
abbrev srI (nm : ByteArray) (b : Nat) (n : Nat) : Value := .agg #[.string nm, .slice (some ⟨b, 0, none⟩) n INF]
theorem flatE_get0 (l : List Ep) (h : 0 < l.length) : (flatE l)[0]? = some (.int .i64 (ep l 0).d) := flatE_get l 0 0 (by decide) h
end Go.Proofs.YtmghmmmfdbafoaaGreatDoor
