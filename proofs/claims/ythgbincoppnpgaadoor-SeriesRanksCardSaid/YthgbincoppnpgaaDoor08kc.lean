/- Chapter 8: RankOf of the program. -/
import Derived.Test.YthgbincoppnpgaaDoor08ka
import Derived.Test.YthgbincoppnpgaaDoor08kb
set_option linter.unusedSimpArgs false
set_option linter.unusedVariables false
namespace Go.Proofs.YthgbincoppnpgaaDoor
open Go Go.RowKit Go.Ab Go.Sr
set_option maxRecDepth 100000
set_option maxHeartbeats 4000000
attribute [local irreducible] OQ OW AL AW AD AF SW
/-- A list of whole numbers that is nil where it is empty. -/
def inV (b : Nat) (L : List Int) : Value := if L = [] then .slice none 0 0 else .slice (some ⟨b, 0, none⟩) L.length INF
def inB (L : List Int) : Option Blk := if L = [] then none else some ⟨flatI L, true, 1⟩
theorem inV_c (b : Nat) (a : Int) (L : List Int) : inV b (a :: L) = .slice (some ⟨b, 0, none⟩) (L.length + 1) INF := if_neg (by simp)
theorem inV_n (b : Nat) : inV b [] = .slice none 0 0 := if_pos rfl
theorem inB_c (a : Int) (L : List Int) : inB (a :: L) = some ⟨flatI (a :: L), true, 1⟩ := if_neg (by simp)
theorem inB_n : inB [] = none := if_pos rfl
abbrev glB : Blk := ⟨[.int .i64 0, .int .i64 1, .int .i64 2], false, 0⟩
theorem lies0 {m : Mem} {b : Nat} {cs : List Value} {o : Bool} {z : Nat} (h : m.at b = some ⟨cs, o, z⟩) (hs : cs.all Ab.scal = true) : Lies [some ⟨cs, false, z⟩] m (fun _ => b) := fun x bk hx => by
  have := Mem.at_lt hx
  match x, this with
  | 0, _ =>
    cases hx
    exact ⟨rfl, ok1_of_scal hs, _, h, rfl, fun j v hv => by rw [rn1_scal (List.all_eq_true.1 hs v (List.mem_of_getElem? hv))]; exact hv⟩
  | x + 1, h => exact absurd h (by simp)
theorem rk3_q {m : Mem} {b : Nat} {o : Bool} (n : Nm) (hN : NB n) (c : Nat) (h : m.at b = some ⟨[.int .i64 0, .int .i64 1, .int .i64 2], o, 0⟩) : PCalls Tryd.prog 25 [nmV n, .slice (some ⟨b, 0, none⟩) 3 c] m (.int .i64 (rkA (sxN n))) :=
  PCalls.via (fun _ => b) (rk3_c n hN c) (lies0 h rfl) rfl rfl rfl rfl
theorem rk2x_q {m : Mem} {b : Nat} {o : Bool} (n : Nm) (hN : NB n) (c : Nat) (h : m.at b = some ⟨[.int .i64 1, .int .i64 2], o, 1⟩) : PCalls Tryd.prog 25 [nmV n, .slice (some ⟨b, 0, none⟩) 2 c] m (.int .i64 (rkT n.yy n.zz (sxN n).mx)) :=
  PCalls.via (fun _ => b) (rk2x_c n hN c) (lies0 h rfl) rfl rfl rfl rfl
theorem rk2y_q {m : Mem} {b : Nat} {o : Bool} (n : Nm) (hN : NB n) (c : Nat) (h : m.at b = some ⟨[.int .i64 2, .int .i64 0], o, 1⟩) : PCalls Tryd.prog 25 [nmV n, .slice (some ⟨b, 0, none⟩) 2 c] m (.int .i64 (rkT n.zz n.xx (sxN n).my)) :=
  PCalls.via (fun _ => b) (rk2y_c n hN c) (lies0 h rfl) rfl rfl rfl rfl
theorem rk2z_q {m : Mem} {b : Nat} {o : Bool} (n : Nm) (hN : NB n) (c : Nat) (h : m.at b = some ⟨[.int .i64 0, .int .i64 1], o, 1⟩) : PCalls Tryd.prog 25 [nmV n, .slice (some ⟨b, 0, none⟩) 2 c] m (.int .i64 (rkT n.xx n.yy (sxN n).mz)) :=
  PCalls.via (fun _ => b) (rk2z_c n hN c) (lies0 h rfl) rfl rfl rfl rfl
theorem RankOf_y {l : List Ep} {nm : ByteArray} (hn : nm.size ≤ 1000) (hR : SRight l) (hN : nameB nm.data.toList = true) (z0 : Nat) (rk r0 r1 r2 : Int) (L : List Int) (hrk : rkA (sxN (NM l)) = rk) (hr0 : rkT (NM l).yy (NM l).zz (sxN (NM l)).mx = r0) (hr1 : rkT (NM l).zz (NM l).xx (sxN (NM l)).my = r1) (hr2 : rkT (NM l).xx (NM l).yy (sxN (NM l)).mz = r2)
    (hL : (r0 = rk ∧ r1 = rk ∧ r2 = rk ∧ L = [0, 1, 2]) ∨ (r0 = rk ∧ r1 = rk ∧ ¬ r2 = rk ∧ L = [0, 1]) ∨ (r0 = rk ∧ ¬ r1 = rk ∧ r2 = rk ∧ L = [0, 2]) ∨ (¬ r0 = rk ∧ r1 = rk ∧ r2 = rk ∧ L = [1, 2]) ∨ (r0 = rk ∧ ¬ r1 = rk ∧ ¬ r2 = rk ∧ L = [0]) ∨ (¬ r0 = rk ∧ r1 = rk ∧ ¬ r2 = rk ∧ L = [1]) ∨ (¬ r0 = rk ∧ ¬ r1 = rk ∧ r2 = rk ∧ L = [2]) ∨ (¬ r0 = rk ∧ ¬ r1 = rk ∧ ¬ r2 = rk ∧ L = [])) :
    ACallsK (AtG 1 0) Tryd.prog 9 [srI nm 0 l.length] [some ⟨flatE l, false, z0⟩, some glB] (.tuple #[.int .i64 rk, inV 2 L, .int .i64 0]) [some ⟨flatE l, false, z0⟩, some glB, inB L] := by
  have HR := fun (m : Mem) (b : Nat) (blk : Blk) (hb : m.at b = some blk) (hc : blk.cells = flatE l) => open_q hn hR hN hb hc rfl
  have hnb := (rws_sb hR).nb
  have K3 := fun (m : Mem) (b : Nat) (o : Bool) (c : Nat) (h : m.at b = some ⟨[.int .i64 0, .int .i64 1, .int .i64 2], o, 0⟩) => rk3_q (NM l) hnb c h
  have K0 := fun (m : Mem) (b : Nat) (o : Bool) (c : Nat) (h : m.at b = some ⟨[.int .i64 1, .int .i64 2], o, 1⟩) => rk2x_q (NM l) hnb c h
  have K1 := fun (m : Mem) (b : Nat) (o : Bool) (c : Nat) (h : m.at b = some ⟨[.int .i64 2, .int .i64 0], o, 1⟩) => rk2y_q (NM l) hnb c h
  have K2 := fun (m : Mem) (b : Nat) (o : Bool) (c : Nat) (h : m.at b = some ⟨[.int .i64 0, .int .i64 1], o, 1⟩) => rk2z_q (NM l) hnb c h
  rw [hrk] at K3
  rw [hr0] at K0
  rw [hr1] at K1
  rw [hr2] at K2
  clear hrk hr0 hr1 hr2 hnb
  generalize NM l = N at *
  rcases hL with ⟨h0, h1, h2, rfl⟩ | ⟨h0, h1, h2, rfl⟩ | ⟨h0, h1, h2, rfl⟩ | ⟨h0, h1, h2, rfl⟩ | ⟨h0, h1, h2, rfl⟩ | ⟨h0, h1, h2, rfl⟩ | ⟨h0, h1, h2, rfl⟩ | ⟨h0, h1, h2, rfl⟩
  all_goals
    simp only [inV_c, inV_n, inB_c, inB_n, List.length_cons, List.length_nil, Nat.zero_add, Nat.reduceAdd]
    refine ACallsK.enter (t := [srI nm 0 l.length, undef, undef, undef, undef, undef, undef, undef, undef, undef, undef, undef, undef, undef, undef, undef, undef, undef, undef, undef, undef, undef, undef, undef, undef, undef, undef, undef, undef, undef, undef, undef, undef, undef, undef, undef, undef, undef, undef, undef, undef, undef, undef, undef, undef, undef, undef, undef]) Tryd.func9 rfl rfl fun E hE hG => ?_
    repeat' (first
      | with_reducible refine Then.n ?_
      | with_reducible refine Then.r ?_
      | with_reducible refine Then.x ?_
      | with_reducible refine InB.n ?_
      | with_reducible refine InB.r ?_
      | with_reducible refine InB.hit ?_
      | with_reducible refine InB.miss (by decide) ?_
      | ((with_reducible refine AL.on ?_); first
        | ((first | ((with_reducible refine AL.k_assign ?_); first | (refine AL.q rfl (OQ.assign (by conv => lhs; whnf)) ?_)) | ((with_reducible refine AL.k_move ?_); first | (refine AL.q rfl (OQ.move (by conv => lhs; whnf)) ?_)) | ((with_reducible refine AL.k_binOp ?_); first | refine AL.q rfl (OQ.neq rfl rfl) ?_ | refine AL.q rfl (OQ.lss rfl rfl) ?_ | refine AL.q rfl (OQ.eql rfl rfl) ?_ | refine AL.q rfl (OQ.addi rfl rfl (by omega)) ?_ | refine AL.q rfl (OQ.add rfl rfl) ?_) | ((with_reducible refine AL.k_load ?_); first | refine AL.q rfl (OQ.loadN (ty := 24) (n := 2) rfl (by kernel_rfl) (by kernel_rfl) rfl) ?_) | ((with_reducible refine AL.k_extract ?_); first | refine AL.q rfl (OQ.extract rfl rfl) ?_)); (conv => (arg 5; try tactic => exact nrm)))
        | ((first | first | refine AL.pcall (g := 25) rfl (by kernel_rfl) rfl ((by first | exact K3 _ _ _ _ rfl | exact K0 _ _ _ _ rfl | exact K1 _ _ _ _ rfl | exact K2 _ _ _ _ rfl)) ?_); (conv => (arg 5; try tactic => exact nrm)))
        | ((first | ((with_reducible refine AL.k_call ?_); first | refine AL.acall (g := 23) rfl (by kernel_rfl) rfl ((by exact HR _ 0 _ rfl rfl)) ?_ | refine AL.w rfl (by first | exact OW.appendNil (z := 1) (by' := 8) (zs := [.int .i64 0]) (e := 3) rfl rfl (by kernel_rfl) (by kernel_rfl) (by kernel_rfl) rfl (by kernel_rfl) (by decide) rfl (by decide) (by decide) | exact OW.append (z := 1) (by' := 8) (zs := [.int .i64 0]) (e := 3) rfl rfl (by kernel_rfl) (by kernel_rfl) (by kernel_rfl) rfl (by kernel_rfl) (by decide) rfl rfl rfl (by decide) (Nat.le_of_ble_eq_true rfl) rfl rfl (by decide) (by decide)) ?_) | ((with_reducible refine AL.k_alloc ?_); first | refine AL.w rfl (OW.alloc (ty := 71) (z := [.slice none 0 0, .slice none 0 0]) (by kernel_rfl) rfl) ?_ | refine AL.w rfl (OW.alloc (ty := 74) (z := [.int .i64 0, .int .i64 0, .int .i64 0, .int .i64 0, .int .i64 0, .int .i64 0, .int .i64 0, .int .i64 0, .int .i64 0, .int .i64 0, .int .i64 0, .int .i64 0]) (by kernel_rfl) rfl) ?_) | ((with_reducible refine AL.k_store ?_); first | (refine AL.w rfl (OW.store (ty := 71) (n := 2) rfl (by conv => lhs; whnf) rfl rfl (by kernel_rfl) rfl rfl (by decide) rfl (Nat.le_of_ble_eq_true rfl) (by intro r h; cases h)) ?_) | (refine AL.w rfl (OW.store (ty := 74) (n := 12) rfl (by conv => lhs; whnf) rfl rfl (by kernel_rfl) rfl rfl (by decide) rfl (Nat.le_of_ble_eq_true rfl) (by intro r h; cases h)) ?_)) | ((with_reducible refine AL.k_buildSlice ?_); first | refine AL.w rfl (OW.buildSl (ty := 33) (zs := [.int .i64 0]) (n := 1) (g := false) (by kernel_rfl) (by kernel_rfl) rfl rfl rfl (by decide) (by decide) rfl rfl) ?_) | ((with_reducible refine AL.k_box ?_); first | (refine AL.w rfl (OW.box (by conv => lhs; whnf) (by intro r h; cases h)) ?_))); (conv => (arg 5; try tactic => exact nrm)); (conv => (arg 6; try tactic => exact nrm)))
        | refine AL.nil ?_)
      | ((with_reducible refine AW.on ?_); first
        | refine AW.seq ?_
        | refine AW.skip ?_
        | refine AW.exit ?_
        | refine AW.ret ?_
        | (refine AW.block (id := 0) ?_; refine AW.unroll 4 ?_)
        | refine AW.block ?_
        | (refine AW.drawF (id := 4) 2 #[0, 0, 3, 7] (by kernel_rfl) (by kernel_rfl) ?_; (conv => (arg 8; simp only [List.take_succ_cons, List.take_zero])))
        | (refine AW.drawF (id := 9) 14 #[0, 0, 2, 6, 14, 30, 0, 64, 192, 448, 960, 2046, 4095, 0, 16383] (by kernel_rfl) (by kernel_rfl) ?_; (conv => (arg 8; simp only [List.take_succ_cons, List.take_zero])))
        | (refine AW.region (id := 3) ?_; exfalso; omega; done)
        | refine AW.region ?_
        | (refine AW.conds rfl (fun hc => ?_) (fun hc => ?_) <;> (try simp only [decide_eq_true_eq, decide_eq_false_iff_not, Bool.not_true, Bool.not_false, Bool.not_eq_true', Bool.not_eq_false', Int.not_lt, Int.not_le, Classical.not_not, ne_eq] at hc) <;> first | (exfalso; first | contradiction | (omega); done) | skip))
      | ((with_reducible refine AF.on ?_); first
        | ((first | ((with_reducible refine AF.k_move ?_); first | (refine AF.q 0 (SW.q (OQ.move (by conv => lhs; whnf)) rfl) ?_)) | ((with_reducible refine AF.k_binOp ?_); first | refine AF.q 0 (SW.q (OQ.addi rfl rfl (by omega)) rfl) ?_ | refine AF.q 0 (SW.q (OQ.add rfl rfl) rfl) ?_ | refine AF.q 0 (SW.q (OQ.rem rfl rfl (by omega)) rfl) ?_) | ((with_reducible refine AF.k_load ?_); first | refine AF.ql rfl (SW.q (OQ.loadN (ty := 74) (n := 12) rfl (by kernel_rfl) (by kernel_rfl) rfl) rfl) ?_ | (refine AF.ql rfl (SW.q (OQ.load1 (ty := 3) rfl (by kernel_rfl) (by conv => lhs; whnf)) rfl) ?_)) | ((with_reducible refine AF.k_call ?_); first | refine AF.q 2 (SW.pcall (g := 25) rfl (by kernel_rfl) rfl ((by first | exact K3 _ _ _ _ rfl | exact K0 _ _ _ _ rfl | exact K1 _ _ _ _ rfl | exact K2 _ _ _ _ rfl)) rfl) ?_) | ((with_reducible refine AF.k_indexAddr ?_); first | refine AF.q 0 (SW.qG hG (OQG.idx (n := 1) (l := 3) (g := false) rfl (by kernel_rfl) (by first | omega | decide) (by first | omega | decide)) rfl) ?_) | refine AF.q 0 (SW.qG hG (OQG.slice (l := 0) (h := 3) (n := 3) (z := 1) (g := false) (by kernel_rfl) rfl rfl (by decide) (by decide) (by decide)) rfl) ?_); (conv => (arg 9; try tactic => exact nrmF)); (conv => (arg 11; try simp only [List.nil_append, List.cons_append])))
        | ((first | first | refine AF.n1 0 (SW.w (OW.buildSl (ty := 33) (zs := [.int .i64 0]) (n := 1) (g := false) (by kernel_rfl) (by kernel_rfl) rfl rfl rfl (by decide) (by decide) rfl rfl) rfl) rfl ?_); (conv => (arg 9; try tactic => exact nrmF)); (conv => (arg 11; try simp only [List.nil_append, List.cons_append])); (conv => (arg 10; try tactic => exact nrmF)))
        | (refine AF.nil ?_ (by kernel_rfl); (conv => (arg 4; simp only [List.drop_succ_cons, List.drop_zero, List.drop_nil]))))
      | with_reducible refine AR.s ?_
      | ((with_reducible refine AR.out ?_); omega; done)
      | ((with_reducible refine FinA.on ?_); first | (refine FinA.keep 2 [90] (.inl rfl) (.tmp (by conv => lhs; whnf) (.tmp (by conv => lhs; whnf) (.tmp (by conv => lhs; whnf) .nil))) (by rfl) rfl (Nat.le_of_eq hE) rfl rfl ⟨⟨_, rfl, rfl, rfl, .inl ⟨rfl, flatE_scal l⟩⟩, ⟨_, rfl, rfl, rfl, .inl ⟨rfl, rfl⟩⟩, trivial⟩) | (refine FinA.keep 2 [9] (.inl rfl) (.tmp (by conv => lhs; whnf) (.tmp (by conv => lhs; whnf) (.tmp (by conv => lhs; whnf) .nil))) (by rfl) rfl (Nat.le_of_eq hE) rfl rfl ⟨⟨_, rfl, rfl, rfl, .inl ⟨rfl, flatE_scal l⟩⟩, ⟨_, rfl, rfl, rfl, .inl ⟨rfl, rfl⟩⟩, ⟨_, rfl, rfl, rfl, .inl ⟨rfl, rfl⟩⟩, trivial⟩) | (refine FinA.keep 2 [10] (.inl rfl) (.tmp (by conv => lhs; whnf) (.tmp (by conv => lhs; whnf) (.tmp (by conv => lhs; whnf) .nil))) (by rfl) rfl (Nat.le_of_eq hE) rfl rfl ⟨⟨_, rfl, rfl, rfl, .inl ⟨rfl, flatE_scal l⟩⟩, ⟨_, rfl, rfl, rfl, .inl ⟨rfl, rfl⟩⟩, ⟨_, rfl, rfl, rfl, .inl ⟨rfl, rfl⟩⟩, trivial⟩) | (refine FinA.keep 2 [11] (.inl rfl) (.tmp (by conv => lhs; whnf) (.tmp (by conv => lhs; whnf) (.tmp (by conv => lhs; whnf) .nil))) (by rfl) rfl (Nat.le_of_eq hE) rfl rfl ⟨⟨_, rfl, rfl, rfl, .inl ⟨rfl, flatE_scal l⟩⟩, ⟨_, rfl, rfl, rfl, .inl ⟨rfl, rfl⟩⟩, ⟨_, rfl, rfl, rfl, .inl ⟨rfl, rfl⟩⟩, trivial⟩) | (refine FinA.keep 2 [12] (.inl rfl) (.tmp (by conv => lhs; whnf) (.tmp (by conv => lhs; whnf) (.tmp (by conv => lhs; whnf) .nil))) (by rfl) rfl (Nat.le_of_eq hE) rfl rfl ⟨⟨_, rfl, rfl, rfl, .inl ⟨rfl, flatE_scal l⟩⟩, ⟨_, rfl, rfl, rfl, .inl ⟨rfl, rfl⟩⟩, ⟨_, rfl, rfl, rfl, .inl ⟨rfl, rfl⟩⟩, trivial⟩) | (refine FinA.keep 2 [13] (.inl rfl) (.tmp (by conv => lhs; whnf) (.tmp (by conv => lhs; whnf) (.tmp (by conv => lhs; whnf) .nil))) (by rfl) rfl (Nat.le_of_eq hE) rfl rfl ⟨⟨_, rfl, rfl, rfl, .inl ⟨rfl, flatE_scal l⟩⟩, ⟨_, rfl, rfl, rfl, .inl ⟨rfl, rfl⟩⟩, ⟨_, rfl, rfl, rfl, .inl ⟨rfl, rfl⟩⟩, trivial⟩) | (refine FinA.keep 2 [15] (.inl rfl) (.tmp (by conv => lhs; whnf) (.tmp (by conv => lhs; whnf) (.tmp (by conv => lhs; whnf) .nil))) (by rfl) rfl (Nat.le_of_eq hE) rfl rfl ⟨⟨_, rfl, rfl, rfl, .inl ⟨rfl, flatE_scal l⟩⟩, ⟨_, rfl, rfl, rfl, .inl ⟨rfl, rfl⟩⟩, ⟨_, rfl, rfl, rfl, .inl ⟨rfl, rfl⟩⟩, trivial⟩)))
end Go.Proofs.YthgbincoppnpgaaDoor
