/- Texts of states: fields, FormatState and ParseState of the program. -/
/- Texts of states: ParseState of the program, whole. -/
import Derived.Test.YthhhkjbhhjcjoaaGreatDoor02tx
import Derived.Test.YthhhkjbhhjcjoaaGreatDoor02c
import Derived.Test.YthhhkjbhhjcjoaaGreatDoorAbU
import Derived.Test.YthhhkjbhhjcjoaaGreatDoorAbN
import Derived.Test.YthhhkjbhhjcjoaaGreatDoorAbS
import Derived.Test.YthhhkjbhhjcjoaaGreatDoorAbJ
import Derived.Test.YthhhkjbhhjcjoaaGreatDoorAbD
import Derived.Test.YthhhkjbhhjcjoaaGreatDoorAbL
set_option linter.unusedSimpArgs false
set_option linter.unusedVariables false
section
section
namespace Go.Ob
open Go.Lib
def tx (l : List UInt8) : ByteArray := ⟨l.toArray⟩
theorem tx_list (l : List UInt8) : (tx l).data.toList = l := rfl
end Go.Ob
namespace Go.Proofs.YthhhkjbhhjcjoaaGreatDoor
open Go Go.RowKit Go.Ob Go.Ab Go.Lib Go.Tx
set_option maxRecDepth 100000
set_option maxHeartbeats 2000000
attribute [local irreducible] OQ OW AL AW AD AF SW
/-- Where the numbers of a state stand. -/
def stP (b : Nat) : Value := .agg #[.pointer (some ⟨b, 0, none⟩), .pointer (some ⟨b, 1, none⟩), .pointer (some ⟨b, 2, none⟩), .pointer (some ⟨b, 3, none⟩), .pointer (some ⟨b, 4, none⟩)]
def i5 (a b c d e : Int) : List Value := [.int .i64 a, .int .i64 b, .int .i64 c, .int .i64 d, .int .i64 e]
theorem ro1p (b : Blk) (h : b.own = false) : Mem.ro [some b] := fun k blk hk => by
  match k, hk with
  | 0, hk => cases hk; exact h
theorem fields_0 (a b c d e : Int) (z : Nat) : PCalls Tryz.prog 34 [.pointer (some ⟨0, 0, none⟩)] [some ⟨i5 a b c d e, false, z⟩] (stP 0) := by
  unfold i5 stP
  refine PCalls.enter (t := [.pointer (some ⟨0, 0, none⟩), undef, undef, undef, undef, undef, undef, undef, undef, undef, undef, undef, undef, undef, undef, undef, undef, undef, undef, undef, undef, undef]) Tryz.func34 rfl (ro1p _ rfl) rfl fun E => ?_
  repeat' (first
    | with_reducible refine Then.n ?_
    | with_reducible refine Then.r ?_
    | with_reducible refine Then.x ?_
    | with_reducible refine InB.n ?_
    | with_reducible refine InB.r ?_
    | with_reducible refine InB.hit ?_
    | with_reducible refine InB.miss (by decide) ?_
    | ((with_reducible refine AL.on ?_); first
      | ((first | first | refine AL.q rfl (OQ.buildA (ty := 73) (zs := [.pointer none, .pointer none, .pointer none, .pointer none, .pointer none]) (n := 1) (k := 5) (g := false) (by kernel_rfl) rfl (by kernel_rfl) rfl rfl rfl) ?_); (conv => (arg 5; try tactic => exact nrm)))
      | ((first | ((with_reducible refine AL.k_alloc ?_); first | refine AL.w rfl (OW.alloc (ty := 73) (z := [.pointer none, .pointer none, .pointer none, .pointer none, .pointer none]) (by kernel_rfl) rfl) ?_) | ((with_reducible refine AL.k_store ?_); first | (refine AL.w rfl (OW.store (ty := 73) (n := 5) rfl (by conv => lhs; whnf) rfl rfl (by kernel_rfl) rfl rfl (by decide) rfl (Nat.le_of_ble_eq_true rfl) (by intro r h; cases h)) ?_))); (conv => (arg 5; try tactic => exact nrm)); (conv => (arg 6; try tactic => exact nrm)))
      | refine AL.nil ?_)
    | ((with_reducible refine AW.on ?_); first
      | refine AW.seq ?_
      | refine AW.skip ?_
      | refine AW.exit ?_
      | refine AW.ret ?_
      | refine AW.block ?_
      | (refine AW.drawF (id := 1) 18 #[0, 1, 3, 0, 8, 24, 56, 0, 128, 384, 896, 0, 2048, 6144, 14336, 0, 32768, 98304, 262143, 524287] (by kernel_rfl) (by kernel_rfl) ?_; (conv => (arg 8; simp only [List.take_succ_cons, List.take_zero])))
      | refine AW.region ?_
      | (refine AW.conds rfl (fun hc => ?_) (fun hc => ?_) <;> (try simp only [decide_eq_true_eq, decide_eq_false_iff_not, Bool.not_true, Bool.not_false, Bool.not_eq_true', Bool.not_eq_false', Int.not_lt, Int.not_le, Classical.not_not, ne_eq] at hc) <;> first | (exfalso; first | contradiction | (omega); done) | skip))
    | ((with_reducible refine AF.on ?_); first
      | ((first | ((with_reducible refine AF.k_fieldAddr ?_); first | refine AF.q 0 (SW.q (OQ.fieldA (ty := 25) (i := 0) (n := 1) (off := 0) (g := false) rfl (by kernel_rfl) (by decide)) rfl) ?_ | refine AF.q 0 (SW.q (OQ.fieldA (ty := 25) (i := 1) (n := 3) (off := 1) (g := true) rfl (by kernel_rfl) (by decide)) rfl) ?_ | refine AF.q 0 (SW.q (OQ.fieldA (ty := 23) (i := 0) (n := 1) (off := 0) (g := false) rfl (by kernel_rfl) (by decide)) rfl) ?_ | refine AF.q 0 (SW.q (OQ.fieldA (ty := 23) (i := 1) (n := 1) (off := 1) (g := false) rfl (by kernel_rfl) (by decide)) rfl) ?_ | refine AF.q 0 (SW.q (OQ.fieldA (ty := 23) (i := 2) (n := 1) (off := 2) (g := false) rfl (by kernel_rfl) (by decide)) rfl) ?_ | refine AF.q 0 (SW.q (OQ.fieldA (ty := 25) (i := 2) (n := 1) (off := 4) (g := false) rfl (by kernel_rfl) (by decide)) rfl) ?_) | ((with_reducible refine AF.k_move ?_); first | (refine AF.q 0 (SW.q (OQ.move (by conv => lhs; whnf)) rfl) ?_)) | refine AF.q 2 (SW.q (OQ.nilCheck rfl) rfl) ?_); (conv => (arg 9; try tactic => exact nrmF)); (conv => (arg 11; try simp only [List.nil_append, List.cons_append])))
      | (refine AF.nil ?_ (by kernel_rfl); (conv => (arg 4; simp only [List.drop_succ_cons, List.drop_zero, List.drop_nil]))))
    | ((with_reducible refine FinP.on ?_); (first | refine FinP.ret (.cellN (n := 5) (by conv => lhs; whnf) (by kernel_rfl) (by kernel_rfl) rfl .nil) ?_ rfl | refine FinP.end (.cellN (n := 5) (by conv => lhs; whnf) (by kernel_rfl) (by kernel_rfl) rfl .nil) ?_ rfl); (try simp only [pack, List.drop, List.take]); all_goals (rfl)))

theorem i5_scal (a b c d e : Int) : (i5 a b c d e).all Ab.scal = true := rfl
theorem ok1s {n : Nat} {cs : List Value} (h : cs.all scal = true) : cs.all (ok1 n) = true := List.all_eq_true.2 fun v hv => by
  have := List.all_eq_true.1 h v hv
  unfold ok1
  split <;> first | exact this | (simp [Ab.scal] at this)
theorem lies5 {m : Mem} {b : Nat} {cs : List Value} {o : Bool} {z : Nat} (h : m.at b = some ⟨cs, o, z⟩) (hs : cs.all Ab.scal = true) : Lies [some ⟨cs, false, z⟩] m (fun _ => b) := fun x bk hx => by
  have := Mem.at_lt hx
  match x, this with
  | 0, _ =>
    cases hx
    exact ⟨rfl, ok1s hs, _, h, rfl, fun j v hv => by rw [rn1_scal (List.all_eq_true.1 hs v (List.mem_of_getElem? hv))]; exact hv⟩
  | x + 1, h => exact absurd h (by simp)
theorem fields_q {m : Mem} {k : Nat} {a b c d e : Int} {o : Bool} {z : Nat} (h : m.at k = some ⟨i5 a b c d e, o, z⟩) : PCalls Tryz.prog 34 [.pointer (some ⟨k, 0, none⟩)] m (stP k) :=
  PCalls.via (fun _ => k) (fields_0 a b c d e z) (lies5 h (i5_scal a b c d e)) rfl rfl rfl rfl
theorem checkState_p (s : St) (m : Mem) : PCalls Tryz.prog 39 [stV s] m (.int .i64 (stE s)) :=
  PCalls.of_calls rfl rfl fun w => checkState_any s w
/-- What the library's functions give, in a world whose first blocks lie as in a given one. -/
structure Lw (N0 : Nat) (W0 : World) : Prop where
  itoa : ∀ (n : Int) (m : Mem), -9223372036854775808 ≤ n → n ≤ 9223372036854775807 → PCallsW N0 W0 Tryz.prog 35 [.int .i64 n] m (.string (tx (Lib.itoa n)))
  join : ∀ (m : Mem) (b c : Nat) (blk : Blk) (ls : List (List UInt8)), m.at b = some blk → blk.cells = ls.map (fun l => Value.string (tx l)) → ls ≠ [] → ls.length ≤ 1000 → (Lib.join ls [32]).length ≤ 1000000 →
    PCallsW N0 W0 Tryz.prog 36 [.slice (some ⟨b, 0, none⟩) ls.length c, .string (tx [32])] m (.string (tx (Lib.join ls [32])))
  split : ∀ (m : Mem) (l : List UInt8), l.length ≤ 1000000 → ACallsW N0 W0 Tryz.prog 37 [.string (tx l), .string (tx [32])] m (.slice (some ⟨m.length, 0, none⟩) (cutAt 32 l).length (cutAt 32 l).length) (m ++ [some ⟨(cutAt 32 l).map (fun l => Value.string (tx l)), true, 1⟩])
  number : ∀ (m : Mem) (l : List UInt8), l.length ≤ 1000000 → PCallsW N0 W0 Tryz.prog 38 [.string (tx l)] m (.tuple #[.int .i64 (numV l), .bool (numP l).isSome])
def okS (s : St) : Prop := ∀ n ∈ numsS s, -9223372036854775808 ≤ n ∧ n ≤ 9223372036854775807
theorem fmt_len {s : St} (h : okS s) : (fmtS s).length ≤ 104 := by
  have h1 := itoa_len s.t (h s.t (by simp [numsS])).1 (h s.t (by simp [numsS])).2
  have h2 := itoa_len s.x (h s.x (by simp [numsS])).1 (h s.x (by simp [numsS])).2
  have h3 := itoa_len s.y (h s.y (by simp [numsS])).1 (h s.y (by simp [numsS])).2
  have h4 := itoa_len s.z (h s.z (by simp [numsS])).1 (h s.z (by simp [numsS])).2
  have h5 := itoa_len s.e (h s.e (by simp [numsS])).1 (h s.e (by simp [numsS])).2
  rw [fmt_ref]
  simp only [List.length_append, List.length_cons, List.length_nil]
  omega
theorem FormatState_w {N0 : Nat} {W0 : World} (L : Lw N0 W0) (s : St) (hs : okS s) : PCallsW N0 W0 Tryz.prog 7 [stV s] [] (.string (tx (fmtS s))) := by
  have HJ := fun (m : Mem) (b c : Nat) (blk : Blk) (h1 : m.at b = some blk) (h2 : blk.cells = ((numsS s).map Lib.itoa).map (fun l => Value.string (tx l))) => L.join m b c blk ((numsS s).map Lib.itoa) h1 h2 (by simp [numsS]) (by simp [numsS]) (by have := fmt_len hs; unfold fmtS at this; omega)
  have HI := fun (n : Int) (hn : n ∈ numsS s) (m : Mem) => L.itoa n m (hs n hn).1 (hs n hn).2
  obtain ⟨a, b, c, d, e⟩ := s
  simp only [numsS, List.map_cons, List.map_nil, List.length_cons, List.length_nil, Nat.zero_add, Nat.reduceAdd, fmtS] at HJ HI ⊢
  generalize Lib.join [Lib.itoa a, Lib.itoa b, Lib.itoa c, Lib.itoa d, Lib.itoa e] [32] = r at *
  clear L hs
  refine PCallsW.enterJ (t := [stV ⟨a, b, c, d, e⟩, undef, undef, undef, undef, undef, undef, undef, undef, undef, undef, undef, undef, undef, undef, undef, undef, undef, undef, undef]) Tryz.func7 rfl (ro_nil) rfl fun E hE hG => ?_
  repeat' (first
    | with_reducible refine Then.n ?_
    | with_reducible refine Then.r ?_
    | with_reducible refine Then.x ?_
    | with_reducible refine InB.n ?_
    | with_reducible refine InB.r ?_
    | with_reducible refine InB.hit ?_
    | with_reducible refine InB.miss (by decide) ?_
    | ((with_reducible refine AL.on ?_); first
      | ((first | ((with_reducible refine AL.k_assign ?_); first | (refine AL.q rfl (OQ.assign (by conv => lhs; whnf)) ?_)) | ((with_reducible refine AL.k_move ?_); first | (refine AL.q rfl (OQ.move (by conv => lhs; whnf)) ?_)) | ((with_reducible refine AL.k_binOp ?_); first | refine AL.q rfl (OQ.lss rfl rfl) ?_ | refine AL.q rfl (OQ.addi rfl rfl (by omega)) ?_ | refine AL.q rfl (OQ.add rfl rfl) ?_) | ((with_reducible refine AL.k_index ?_); first | refine AL.q rfl (OQ.idxArr1 (ty := 73) (n := 1) (l := 5) rfl rfl (by kernel_rfl) (by omega) (by omega) rfl) ?_) | ((with_reducible refine AL.k_load ?_); first | (refine AL.q rfl (OQ.load1 (ty := 3) rfl (by kernel_rfl) (by conv => lhs; whnf)) ?_)) | refine AL.q rfl (OQ.nilCheck rfl) ?_); (conv => (arg 5; try tactic => exact nrm)))
      | ((first | first | refine AL.pcall (g := 34) rfl (by kernel_rfl) rfl ((by exact fields_q (a := a) (b := b) (c := c) (d := d) (e := e) rfl)) ?_); (conv => (arg 5; try tactic => exact nrm)))
      | ((first | ((with_reducible refine AL.k_call ?_); first | refine AL.acallW hG (g := 35) rfl (by kernel_rfl) rfl ((by exact (HI _ (by simp) _).acalls)) ?_ | refine AL.w rfl (by first | exact OW.appendNil (e := 9) (z := 1) (zs := [.string ⟨#[]⟩]) (by' := 16) rfl rfl (by kernel_rfl) (by kernel_rfl) (by kernel_rfl) rfl (by kernel_rfl) (by decide) rfl (by decide) (by decide) | exact OW.appendL (e := 9) (z := 1) (zs := [.string ⟨#[]⟩]) (by' := 16) rfl rfl (by kernel_rfl) (by kernel_rfl) (by kernel_rfl) rfl (by kernel_rfl) (by decide) rfl rfl rfl (by decide) (by rfl) rfl rfl (by omega) (by omega)) ?_ | refine AL.acallW hG (g := 36) rfl (by kernel_rfl) rfl ((by exact (HJ _ _ _ _ rfl rfl).acalls)) ?_) | ((with_reducible refine AL.k_box ?_); first | (refine AL.w rfl (OW.box (by conv => lhs; whnf) (by intro r h; cases h)) ?_)) | ((with_reducible refine AL.k_buildSlice ?_); first | refine AL.w rfl (OW.build1 (ty := 71) (z := .string ⟨#[]⟩) (g := false) (by kernel_rfl) (by kernel_rfl) rfl rfl ⟨rfl, rfl⟩) ?_)); (conv => (arg 5; try tactic => exact nrm)); (conv => (arg 6; try tactic => exact nrm)))
      | refine AL.nil ?_)
    | ((with_reducible refine AW.on ?_); first
      | refine AW.seq ?_
      | refine AW.skip ?_
      | refine AW.exit ?_
      | refine AW.ret ?_
      | (refine AW.block (id := 0) ?_; refine AW.unroll 6 ?_)
      | refine AW.block ?_
      | refine AW.region ?_
      | (refine AW.conds rfl (fun hc => ?_) (fun hc => ?_) <;> (try simp only [decide_eq_true_eq, decide_eq_false_iff_not, Bool.not_true, Bool.not_false, Bool.not_eq_true', Bool.not_eq_false', Int.not_lt, Int.not_le, Classical.not_not, ne_eq] at hc) <;> first | (exfalso; first | contradiction | (omega); done) | skip))
    | with_reducible refine AR.s ?_
    | ((with_reducible refine AR.out ?_); omega; done)
    | ((with_reducible refine FinJ.on ?_); first | exact FinJ.ret (.tmp (by conv => lhs; whnf) .nil) (jle_flat rfl) | exact FinJ.end (.tmp (by conv => lhs; whnf) .nil) (jle_flat rfl)))

/-- How 'number' answers on one text. -/
def Num (N0 : Nat) (W0 : World) (p : List UInt8) (v : Int) (b : Bool) : Prop := ∀ m : Mem, PCallsW N0 W0 Tryz.prog 38 [.string (tx p)] m (.tuple #[.int .i64 v, .bool b])
/-- How 'Split' answers. -/
def Spl (N0 : Nat) (W0 : World) (l : List UInt8) (ps : List (List UInt8)) : Prop := ∀ m : Mem, ACallsW N0 W0 Tryz.prog 37 [.string (tx l), .string (tx [32])] m (.slice (some ⟨m.length, 0, none⟩) ps.length ps.length) (m ++ [some ⟨ps.map (fun l => Value.string (tx l)), true, 1⟩])
theorem PS_len {N0 : Nat} {W0 : World} {l : List UInt8} {ps : List (List UInt8)} (HS : Spl N0 W0 l ps) (hn : ps.length ≠ 5) (hl : ps.length ≤ 1000000) : PCallsW N0 W0 Tryz.prog 8 [.string (tx l)] [] (.tuple #[stV St0, .int .i64 7]) := by
  unfold Spl at HS
  generalize ps.length = n at *
  refine PCallsW.enterJ (t := [.string (tx l), undef, undef, undef, undef, undef, undef, undef, undef, undef, undef, undef, undef, undef, undef, undef, undef, undef, undef, undef, undef, undef, undef, undef, undef, undef, undef, undef, undef, undef, undef, undef, undef, undef, undef, undef, undef, undef, undef, undef, undef, undef, undef, undef, undef, undef, undef]) Tryz.func8 rfl (ro_nil) rfl fun E hE hG => ?_
  repeat' (first
    | with_reducible refine Then.n ?_
    | with_reducible refine Then.r ?_
    | with_reducible refine Then.x ?_
    | with_reducible refine InB.n ?_
    | with_reducible refine InB.r ?_
    | with_reducible refine InB.hit ?_
    | with_reducible refine InB.miss (by decide) ?_
    | ((with_reducible refine AL.on ?_); first
      | ((first | ((with_reducible refine AL.k_move ?_); first | (refine AL.q rfl (OQ.move (by conv => lhs; whnf)) ?_)) | ((with_reducible refine AL.k_assign ?_); first | (refine AL.q rfl (OQ.assign (by conv => lhs; whnf)) ?_)) | ((with_reducible refine AL.k_call ?_); first | refine AL.q rfl (OQ.lenS (xt := 71) (r := (none, 1, false)) rfl (by kernel_rfl)) ?_) | ((with_reducible refine AL.k_binOp ?_); first | refine AL.q rfl (OQ.neq rfl rfl) ?_ | refine AL.q rfl (OQ.lss rfl rfl) ?_ | refine AL.q rfl (OQ.addi rfl rfl (by omega)) ?_ | refine AL.q rfl (OQ.add rfl rfl) ?_) | ((with_reducible refine AL.k_load ?_); first | (refine AL.q rfl (OQ.load1 (ty := 9) rfl (by kernel_rfl) (by conv => lhs; whnf)) ?_) | (refine AL.q rfl (OQ.load1 (ty := 72) rfl (by kernel_rfl) (by conv => lhs; whnf)) ?_) | refine AL.q rfl (OQ.loadN (ty := 25) (n := 5) rfl (by kernel_rfl) (by kernel_rfl) rfl) ?_) | ((with_reducible refine AL.k_indexAddr ?_); first | refine AL.q rfl (OQ.idxAddr (ty := 71) (z := 1) (g := false) rfl rfl (by kernel_rfl) (by omega) (by omega)) ?_ | refine AL.q rfl (OQ.idxPtr (ty := 73) (n := 1) (l := 5) (g := false) rfl rfl (by kernel_rfl) (by omega) (by omega)) ?_) | ((with_reducible refine AL.k_extract ?_); first | refine AL.q rfl (OQ.extract rfl rfl) ?_) | ((with_reducible refine AL.k_unOp ?_); first | refine AL.q rfl (OQ.not rfl) ?_) | refine AL.q rfl (OQ.nilCheck rfl) ?_); (conv => (arg 5; try tactic => exact nrm)))
      | ((first | ((with_reducible refine AL.k_call ?_); first | refine AL.pcall (g := 34) rfl (by kernel_rfl) rfl ((by exact fields_q (a := 0) (b := 0) (c := 0) (d := 0) (e := 0) rfl)) ?_) | ((with_reducible refine AL.k_build ?_); first | refine AL.q rfl (OQ.buildS (ty := 25) (zs := [.int .i64 0, .int .i64 0, .int .i64 0, .int .i64 0, .int .i64 0]) (pls := [(0, 1), (1, 3), (4, 1)]) (by kernel_rfl) rfl (by kernel_rfl) rfl rfl rfl) ?_)); (conv => (arg 5; try tactic => exact nrm)))
      | ((first | ((with_reducible refine AL.k_call ?_); first | refine AL.acallW hG (g := 37) rfl (by kernel_rfl) rfl ((by exact HS _)) ?_) | ((with_reducible refine AL.k_store ?_); first | (refine AL.w rfl (OW.store (ty := 73) (n := 5) rfl (by conv => lhs; whnf) rfl rfl (by kernel_rfl) rfl rfl (by decide) rfl (Nat.le_of_ble_eq_true rfl) (by intro r h; cases h)) ?_) | (refine AL.w rfl (OW.store (ty := 25) (n := 5) rfl (by conv => lhs; whnf) rfl rfl (by kernel_rfl) rfl rfl (by decide) rfl (Nat.le_of_ble_eq_true rfl) (by intro r h; cases h)) ?_) | (refine AL.w rfl (OW.store (ty := 3) (n := 1) rfl (by conv => lhs; whnf) rfl rfl (by kernel_rfl) rfl rfl (by decide) rfl (Nat.le_of_ble_eq_true rfl) (by intro r h; cases h)) ?_)) | ((with_reducible refine AL.k_alloc ?_); first | refine AL.w rfl (OW.alloc (ty := 25) (z := [.int .i64 0, .int .i64 0, .int .i64 0, .int .i64 0, .int .i64 0]) (by kernel_rfl) rfl) ?_ | refine AL.w rfl (OW.alloc (ty := 73) (z := [.pointer none, .pointer none, .pointer none, .pointer none, .pointer none]) (by kernel_rfl) rfl) ?_)); (conv => (arg 5; try tactic => exact nrm)); (conv => (arg 6; try tactic => exact nrm)))
      | refine AL.nil ?_)
    | ((with_reducible refine AW.on ?_); first
      | refine AW.seq ?_
      | refine AW.skip ?_
      | refine AW.exit ?_
      | refine AW.ret ?_
      | refine AW.block ?_
      | (refine AW.region (id := 5) ?_; exfalso; omega; done)
      | refine AW.region ?_
      | (refine AW.conds rfl (fun hc => ?_) (fun hc => ?_) <;> (try simp only [decide_eq_true_eq, decide_eq_false_iff_not, Bool.not_true, Bool.not_false, Bool.not_eq_true', Bool.not_eq_false', Int.not_lt, Int.not_le, Classical.not_not, ne_eq] at hc) <;> first | (exfalso; first | contradiction | (omega); done) | skip))
    | ((with_reducible refine FinJ.on ?_); first | exact FinJ.ret (.cellN (n := 5) (by conv => lhs; whnf) (by kernel_rfl) (by kernel_rfl) rfl (.tmp (by conv => lhs; whnf) .nil)) (jle_flat rfl) | exact FinJ.end (.cellN (n := 5) (by conv => lhs; whnf) (by kernel_rfl) (by kernel_rfl) rfl (.tmp (by conv => lhs; whnf) .nil)) (jle_flat rfl)))
theorem PS_go {N0 : Nat} {W0 : World} {l p0 p1 p2 p3 p4 : List UInt8} {v0 v1 v2 v3 v4 : Int} {b0 b1 b2 b3 b4 : Bool} (HS : Spl N0 W0 l [p0, p1, p2, p3, p4]) (h0 : Num N0 W0 p0 v0 b0) (h1 : Num N0 W0 p1 v1 b1) (h2 : Num N0 W0 p2 v2 b2) (h3 : Num N0 W0 p3 v3 b3) (h4 : Num N0 W0 p4 v4 b4) {r : Value}
    (hr : (b0 = false ∨ b1 = false ∨ b2 = false ∨ b3 = false ∨ b4 = false) ∧ r = .tuple #[stV St0, .int .i64 7] ∨ (b0 = true ∧ b1 = true ∧ b2 = true ∧ b3 = true ∧ b4 = true) ∧ (stE ⟨v0, v1, v2, v3, v4⟩ = 0 ∧ r = .tuple #[stV ⟨v0, v1, v2, v3, v4⟩, .int .i64 0] ∨ stE ⟨v0, v1, v2, v3, v4⟩ ≠ 0 ∧ r = .tuple #[stV St0, .int .i64 (stE ⟨v0, v1, v2, v3, v4⟩)])) :
    PCallsW N0 W0 Tryz.prog 8 [.string (tx l)] [] r := by
  unfold Spl at HS
  unfold Num at h0 h1 h2 h3 h4
  have HC := fun m => checkState_p ⟨v0, v1, v2, v3, v4⟩ m
  generalize stE ⟨v0, v1, v2, v3, v4⟩ = ce at *
  simp only [List.length_cons, List.length_nil, Nat.zero_add, Nat.reduceAdd, List.map_cons, List.map_nil] at HS
  have key : (b0 = false ∧ r = .tuple #[stV St0, .int .i64 7]) ∨ (b0 = true ∧ b1 = false ∧ r = .tuple #[stV St0, .int .i64 7]) ∨ (b0 = true ∧ b1 = true ∧ b2 = false ∧ r = .tuple #[stV St0, .int .i64 7]) ∨ (b0 = true ∧ b1 = true ∧ b2 = true ∧ b3 = false ∧ r = .tuple #[stV St0, .int .i64 7]) ∨ (b0 = true ∧ b1 = true ∧ b2 = true ∧ b3 = true ∧ b4 = false ∧ r = .tuple #[stV St0, .int .i64 7]) ∨
      (b0 = true ∧ b1 = true ∧ b2 = true ∧ b3 = true ∧ b4 = true ∧ ce = 0 ∧ r = .tuple #[stV ⟨v0, v1, v2, v3, v4⟩, .int .i64 0]) ∨ (b0 = true ∧ b1 = true ∧ b2 = true ∧ b3 = true ∧ b4 = true ∧ ce ≠ 0 ∧ r = .tuple #[stV St0, .int .i64 ce]) := by
    cases b0 <;> cases b1 <;> cases b2 <;> cases b3 <;> cases b4 <;> simp_all
  clear hr
  rcases key with ⟨rfl, rfl⟩ | ⟨rfl, rfl, rfl⟩ | ⟨rfl, rfl, rfl, rfl⟩ | ⟨rfl, rfl, rfl, rfl, rfl⟩ | ⟨rfl, rfl, rfl, rfl, rfl, rfl⟩ | ⟨rfl, rfl, rfl, rfl, rfl, rfl, rfl⟩ | ⟨rfl, rfl, rfl, rfl, rfl, hce, rfl⟩
  all_goals
    refine PCallsW.enterJ (t := [.string (tx l), undef, undef, undef, undef, undef, undef, undef, undef, undef, undef, undef, undef, undef, undef, undef, undef, undef, undef, undef, undef, undef, undef, undef, undef, undef, undef, undef, undef, undef, undef, undef, undef, undef, undef, undef, undef, undef, undef, undef, undef, undef, undef, undef, undef, undef, undef]) Tryz.func8 rfl (ro_nil) rfl fun E hE hG => ?_
    repeat' (first
      | with_reducible refine Then.n ?_
      | with_reducible refine Then.r ?_
      | with_reducible refine Then.x ?_
      | with_reducible refine InB.n ?_
      | with_reducible refine InB.r ?_
      | with_reducible refine InB.hit ?_
      | with_reducible refine InB.miss (by decide) ?_
      | ((with_reducible refine AL.on ?_); first
        | ((first | ((with_reducible refine AL.k_move ?_); first | (refine AL.q rfl (OQ.move (by conv => lhs; whnf)) ?_)) | ((with_reducible refine AL.k_assign ?_); first | (refine AL.q rfl (OQ.assign (by conv => lhs; whnf)) ?_)) | ((with_reducible refine AL.k_call ?_); first | refine AL.q rfl (OQ.lenS (xt := 71) (r := (none, 1, false)) rfl (by kernel_rfl)) ?_) | ((with_reducible refine AL.k_binOp ?_); first | refine AL.q rfl (OQ.neq rfl rfl) ?_ | refine AL.q rfl (OQ.lss rfl rfl) ?_ | refine AL.q rfl (OQ.addi rfl rfl (by omega)) ?_ | refine AL.q rfl (OQ.add rfl rfl) ?_) | ((with_reducible refine AL.k_load ?_); first | (refine AL.q rfl (OQ.load1 (ty := 9) rfl (by kernel_rfl) (by conv => lhs; whnf)) ?_) | (refine AL.q rfl (OQ.load1 (ty := 72) rfl (by kernel_rfl) (by conv => lhs; whnf)) ?_) | refine AL.q rfl (OQ.loadN (ty := 25) (n := 5) rfl (by kernel_rfl) (by kernel_rfl) rfl) ?_) | ((with_reducible refine AL.k_indexAddr ?_); first | refine AL.q rfl (OQ.idxAddr (ty := 71) (z := 1) (g := false) rfl rfl (by kernel_rfl) (by omega) (by omega)) ?_ | refine AL.q rfl (OQ.idxPtr (ty := 73) (n := 1) (l := 5) (g := false) rfl rfl (by kernel_rfl) (by omega) (by omega)) ?_) | ((with_reducible refine AL.k_extract ?_); first | refine AL.q rfl (OQ.extract rfl rfl) ?_) | ((with_reducible refine AL.k_unOp ?_); first | refine AL.q rfl (OQ.not rfl) ?_) | refine AL.q rfl (OQ.nilCheck rfl) ?_); (conv => (arg 5; try tactic => exact nrm)))
        | ((first | ((with_reducible refine AL.k_call ?_); first | refine AL.pcall (g := 34) rfl (by kernel_rfl) rfl ((by exact fields_q (a := 0) (b := 0) (c := 0) (d := 0) (e := 0) rfl)) ?_ | refine AL.pcall (g := 39) rfl (by kernel_rfl) rfl ((by exact HC _)) ?_) | ((with_reducible refine AL.k_build ?_); first | refine AL.q rfl (OQ.buildS (ty := 25) (zs := [.int .i64 0, .int .i64 0, .int .i64 0, .int .i64 0, .int .i64 0]) (pls := [(0, 1), (1, 3), (4, 1)]) (by kernel_rfl) rfl (by kernel_rfl) rfl rfl rfl) ?_)); (conv => (arg 5; try tactic => exact nrm)))
        | ((first | ((with_reducible refine AL.k_call ?_); first | refine AL.acallW hG (g := 37) rfl (by kernel_rfl) rfl ((by exact HS _)) ?_ | refine AL.acallW hG (g := 38) rfl (by kernel_rfl) rfl ((by first | exact (h0 _).acalls | exact (h1 _).acalls | exact (h2 _).acalls | exact (h3 _).acalls | exact (h4 _).acalls)) ?_) | ((with_reducible refine AL.k_store ?_); first | (refine AL.w rfl (OW.store (ty := 73) (n := 5) rfl (by conv => lhs; whnf) rfl rfl (by kernel_rfl) rfl rfl (by decide) rfl (Nat.le_of_ble_eq_true rfl) (by intro r h; cases h)) ?_) | (refine AL.w rfl (OW.store (ty := 25) (n := 5) rfl (by conv => lhs; whnf) rfl rfl (by kernel_rfl) rfl rfl (by decide) rfl (Nat.le_of_ble_eq_true rfl) (by intro r h; cases h)) ?_) | (refine AL.w rfl (OW.store (ty := 3) (n := 1) rfl (by conv => lhs; whnf) rfl rfl (by kernel_rfl) rfl rfl (by decide) rfl (Nat.le_of_ble_eq_true rfl) (by intro r h; cases h)) ?_)) | ((with_reducible refine AL.k_alloc ?_); first | refine AL.w rfl (OW.alloc (ty := 25) (z := [.int .i64 0, .int .i64 0, .int .i64 0, .int .i64 0, .int .i64 0]) (by kernel_rfl) rfl) ?_ | refine AL.w rfl (OW.alloc (ty := 73) (z := [.pointer none, .pointer none, .pointer none, .pointer none, .pointer none]) (by kernel_rfl) rfl) ?_)); (conv => (arg 5; try tactic => exact nrm)); (conv => (arg 6; try tactic => exact nrm)))
        | refine AL.nil ?_)
      | ((with_reducible refine AW.on ?_); first
        | refine AW.seq ?_
        | refine AW.skip ?_
        | refine AW.exit ?_
        | refine AW.ret ?_
        | (refine AW.block (id := 0) ?_; refine AW.unroll 6 ?_)
        | refine AW.block ?_
        | (refine AW.region (id := 4) ?_; exfalso; first | omega | (simp at hc; done); done)
        | refine AW.region ?_
        | (refine AW.conds rfl (fun hc => ?_) (fun hc => ?_) <;> (try simp only [decide_eq_true_eq, decide_eq_false_iff_not, Bool.not_true, Bool.not_false, Bool.not_eq_true', Bool.not_eq_false', Int.not_lt, Int.not_le, Classical.not_not, ne_eq] at hc) <;> first | (exfalso; first | contradiction | (first | omega | (simp at hc; done)); done) | skip))
      | with_reducible refine AR.s ?_
      | ((with_reducible refine AR.out ?_); first | omega | (simp at hc; done); done)
      | ((with_reducible refine FinJ.on ?_); first | exact FinJ.ret (.cellN (n := 5) (by conv => lhs; whnf) (by kernel_rfl) (by kernel_rfl) rfl (.tmp (by conv => lhs; whnf) .nil)) (jle_flat rfl) | exact FinJ.end (.cellN (n := 5) (by conv => lhs; whnf) (by kernel_rfl) (by kernel_rfl) rfl (.tmp (by conv => lhs; whnf) .nil)) (jle_flat rfl)))
end Go.Proofs.YthhhkjbhhjcjoaaGreatDoor
end
end

section
section
namespace Go.Tx
theorem cut_sub (c : UInt8) : ∀ (l p : List UInt8), p ∈ cutAt c l → p.length ≤ l.length
  | [], p, h => by
    rw [cutAt] at h
    simp at h
    subst h
    exact Nat.le_refl _
  | b :: l, p, h => by
    rw [cutAt] at h
    have hne := cut_ne c l
    have ih := cut_sub c l
    split at h
    · rcases List.mem_cons.1 h with rfl | h
      · simp
      · have := ih p h
        simp; omega
    · cases hcl : cutAt c l with
      | nil => exact absurd hcl hne
      | cons q r =>
        rw [hcl] at h ih
        simp at h
        rcases h with rfl | h
        · have := ih q (by simp)
          simp; omega
        · have := ih p (by simp [h])
          simp; omega
end Go.Tx
namespace Go.Proofs.YthhhkjbhhjcjoaaGreatDoor
open Go Go.RowKit Go.Ob Go.Ab Go.Lib Go.Tx
theorem ParseState_w {N0 : Nat} {W0 : World} (L : Lw N0 W0) (l : List UInt8) (hl : l.length ≤ 1000) : PCallsW N0 W0 Tryz.prog 8 [.string (tx l)] [] (.tuple #[stV (prsS l).1, .int .i64 (prsS l).2]) := by
  have HS : Spl N0 W0 l (cutAt 32 l) := fun m => L.split m l (by omega)
  have hlen : (cutAt 32 l).length ≤ 1000000 := by
    rw [cut_len]
    have := List.count_le_length (a := (32 : UInt8)) (l := l)
    omega
  by_cases h5 : (cutAt 32 l).length = 5
  · have hsub := cut_sub 32 l
    match hc : cutAt 32 l, h5 with
    | [a, b, c, d, e], _ =>
      rw [hc] at HS hsub
      have HN : ∀ p ∈ [a, b, c, d, e], Num N0 W0 p (numV p) (numP p).isSome := fun p hp m => L.number m p (by have := hsub p hp; omega)
      have hb : ∀ p, p ∈ [a, b, c, d, e] → (numP p).isSome = false → prsS l = (St0, 7) := fun p hp hx => by
        refine prs_no (p := p) (by rw [hc]; exact hp) ?_
        rw [← num_same]
        simpa using hx
      have hg : ∀ p, (numP p).isSome = true → numR p = some (numV p) := fun p hx => by
        rw [num_same] at hx
        obtain ⟨v, hv⟩ := Option.isSome_iff_exists.1 hx
        rw [numP_V hv, hv]
      refine PS_go HS (HN a (by simp)) (HN b (by simp)) (HN c (by simp)) (HN d (by simp)) (HN e (by simp)) ?_
      by_cases hany : (numP a).isSome = false ∨ (numP b).isSome = false ∨ (numP c).isSome = false ∨ (numP d).isSome = false ∨ (numP e).isSome = false
      · refine .inl ⟨hany, ?_⟩
        have : prsS l = (St0, 7) := by
          rcases hany with h | h | h | h | h
          · exact hb a (by simp) h
          · exact hb b (by simp) h
          · exact hb c (by simp) h
          · exact hb d (by simp) h
          · exact hb e (by simp) h
        rw [this]
      · simp only [not_or, Bool.not_eq_false] at hany
        obtain ⟨g0, g1, g2, g3, g4⟩ := hany
        refine .inr ⟨⟨g0, g1, g2, g3, g4⟩, ?_⟩
        rw [prs_5 hc (hg a g0) (hg b g1) (hg c g2) (hg d g3) (hg e g4)]
        by_cases hz : stE ⟨numV a, numV b, numV c, numV d, numV e⟩ = 0
        · exact .inl ⟨hz, by rw [if_pos hz]⟩
        · exact .inr ⟨hz, by rw [if_neg hz]⟩
  · rw [prs_len h5]
    exact PS_len HS h5 hlen
end Go.Proofs.YthhhkjbhhjcjoaaGreatDoor
end
end
