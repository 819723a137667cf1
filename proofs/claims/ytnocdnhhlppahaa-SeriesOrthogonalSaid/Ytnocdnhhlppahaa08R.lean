/- Residuals: the program's side. -/
import Derived.Test.Ytnocdnhhlppahaa08sq
set_option linter.unusedSimpArgs false
set_option linter.unusedVariables false
namespace Go.Sr
set_option maxRecDepth 100000
theorem SB.c00 {n : Nm} (h : SB n) : -8000000 ≤ cofF n 0 0 ∧ cofF n 0 0 ≤ 8000000 := by
  have e : cofF n 0 0 = n.yy * n.zz - n.yz * n.yz := rfl
  have := mulc 4000000 h.yy h.zz (by decide)
  have := mulc 4000000 h.yz h.yz (by decide)
  omega
theorem SB.c01 {n : Nm} (h : SB n) : -32000000 ≤ cofF n 0 1 ∧ cofF n 0 1 ≤ 32000000 := by
  have e : cofF n 0 1 = n.yz * n.xz - n.xy * n.zz := rfl
  have := mulc 16000000 h.yz h.xz (by decide)
  have := mulc 16000000 h.xy h.zz (by decide)
  omega
theorem SB.c10 {n : Nm} (h : SB n) : -32000000 ≤ cofF n 1 0 ∧ cofF n 1 0 ≤ 32000000 := by
  have e : cofF n 1 0 = n.yz * n.xz - n.zz * n.xy := rfl
  have := mulc 16000000 h.yz h.xz (by decide)
  have := mulc 16000000 h.zz h.xy (by decide)
  omega
theorem SB.c02 {n : Nm} (h : SB n) : -3200000000 ≤ cofF n 0 2 ∧ cofF n 0 2 ≤ 3200000000 := by
  have e : cofF n 0 2 = n.xy * n.yz - n.yy * n.xz := rfl
  have := mulc 1600000000 h.xy h.yz (by decide)
  have := mulc 1600000000 h.yy h.xz (by decide)
  omega
theorem SB.c20 {n : Nm} (h : SB n) : -3200000000 ≤ cofF n 2 0 ∧ cofF n 2 0 ≤ 3200000000 := by
  have e : cofF n 2 0 = n.xy * n.yz - n.xz * n.yy := rfl
  have := mulc 1600000000 h.xy h.yz (by decide)
  have := mulc 1600000000 h.xz h.yy (by decide)
  omega
theorem SB.c11 {n : Nm} (h : SB n) : -128000000 ≤ cofF n 1 1 ∧ cofF n 1 1 ≤ 128000000 := by
  have e : cofF n 1 1 = n.zz * n.xx - n.xz * n.xz := rfl
  have := mulc 64000000 h.zz h.xx (by decide)
  have := mulc 64000000 h.xz h.xz (by decide)
  omega
theorem SB.c12 {n : Nm} (h : SB n) : -12800000000 ≤ cofF n 1 2 ∧ cofF n 1 2 ≤ 12800000000 := by
  have e : cofF n 1 2 = n.xz * n.xy - n.yz * n.xx := rfl
  have := mulc 6400000000 h.xz h.xy (by decide)
  have := mulc 6400000000 h.yz h.xx (by decide)
  omega
theorem SB.c21 {n : Nm} (h : SB n) : -12800000000 ≤ cofF n 2 1 ∧ cofF n 2 1 ≤ 12800000000 := by
  have e : cofF n 2 1 = n.xz * n.xy - n.xx * n.yz := rfl
  have := mulc 6400000000 h.xz h.xy (by decide)
  have := mulc 6400000000 h.xx h.yz (by decide)
  omega
theorem SB.c22 {n : Nm} (h : SB n) : -1280000000000 ≤ cofF n 2 2 ∧ cofF n 2 2 ≤ 1280000000000 := by
  have e : cofF n 2 2 = n.xx * n.yy - n.xy * n.xy := rfl
  have := mulc 640000000000 h.xx h.yy (by decide)
  have := mulc 640000000000 h.xy h.xy (by decide)
  omega
theorem SB.fit0 {n : Nm} (h : SB n) : -3072000000000000 ≤ fitF n 0 ∧ fitF n 0 ≤ 3072000000000000 := by
  have := mulc 1024000000000000 h.c00 h.p (by decide)
  have := mulc 1024000000000000 h.c10 h.q (by decide)
  have := mulc 1024000000000000 h.c20 h.r (by decide)
  unfold fitF
  omega
theorem SB.fit1 {n : Nm} (h : SB n) : -12288000000000000 ≤ fitF n 1 ∧ fitF n 1 ≤ 12288000000000000 := by
  have := mulc 4096000000000000 h.c01 h.p (by decide)
  have := mulc 4096000000000000 h.c11 h.q (by decide)
  have := mulc 4096000000000000 h.c21 h.r (by decide)
  unfold fitF
  omega
theorem SB.fit2 {n : Nm} (h : SB n) : -1228800000000000000 ≤ fitF n 2 ∧ fitF n 2 ≤ 1228800000000000000 := by
  have := mulc 409600000000000000 h.c02 h.p (by decide)
  have := mulc 409600000000000000 h.c12 h.q (by decide)
  have := mulc 409600000000000000 h.c22 h.r (by decide)
  unfold fitF
  omega
theorem SB.detb {n : Nm} (h : SB n) : -76800000000000 ≤ n.det ∧ n.det ≤ 76800000000000 := by
  have := mulc 25600000000000 h.xx h.c00 (by decide)
  have := mulc 25600000000000 h.xy h.c01 (by decide)
  have := mulc 25600000000000 h.xz h.c02 (by decide)
  rw [← det_cof]
  omega
def rsd (N : Nm) (r : Rw) : Int := r.v * N.det - (fitF N 0 * r.x + fitF N 1 * r.y + fitF N 2 * r.z)
theorem rsd_bd {N : Nm} {r : Rw} (h : SB N) (hr : (-400 ≤ r.x ∧ r.x ≤ 400) ∧ (-100 ≤ r.y ∧ r.y ≤ 100) ∧ (0 ≤ r.z ∧ r.z ≤ 1) ∧ -16000 ≤ r.v ∧ r.v ≤ 16000) :
    (-1228800000000000000 ≤ fitF N 0 * r.x ∧ fitF N 0 * r.x ≤ 1228800000000000000) ∧ (-1228800000000000000 ≤ fitF N 1 * r.y ∧ fitF N 1 * r.y ≤ 1228800000000000000) ∧ (-1228800000000000000 ≤ fitF N 2 * r.z ∧ fitF N 2 * r.z ≤ 1228800000000000000) ∧ (-1228800000000000000 ≤ r.v * N.det ∧ r.v * N.det ≤ 1228800000000000000) ∧ -4915200000000000000 ≤ rsd N r ∧ rsd N r ≤ 4915200000000000000 := by
  have h1 := mulc 1228800000000000000 h.fit0 hr.1 (by decide)
  have h2 := mulc 1228800000000000000 h.fit1 hr.2.1 (by decide)
  have h3 := mulc (B := 1) 1228800000000000000 h.fit2 (b := r.z) (by omega) (by decide)
  have h4 := mulc 1228800000000000000 hr.2.2.2 h.detb (by decide)
  refine ⟨h1, h2, h3, h4, ?_⟩
  unfold rsd
  omega
end Go.Sr
namespace Go.Proofs.Ytnocdnhhlppahaa
open Go Go.RowKit Go.Ab Go.Sr
set_option maxRecDepth 100000
set_option maxHeartbeats 4000000
attribute [local irreducible] OQ OW AL AW AD AF SW

def rsT (l : List Ep) (k : Nat) : List Int := ((rws l).take k).map (rsd (NM l))
theorem rsT_len (l : List Ep) (k : Nat) (h : k ≤ l.length) : (rsT l k).length = k := by simp [rsT, rws_len]; omega
theorem rsT_succ (l : List Ep) (k : Nat) (h : k < l.length) : rsT l (k + 1) = rsT l k ++ [rsd (NM l) (rw_ (rws l) k)] := by
  have hk : k < (rws l).length := by rw [rws_len]; exact h
  unfold rsT rw_
  rw [List.take_add_one, List.getElem?_eq_getElem hk, Option.toList_some, List.map_append, List.getD_eq_getElem?_getD, List.getElem?_eq_getElem hk]
  rfl
theorem rsT_get (l : List Ep) (k : Nat) (h : k < l.length) : (rsT l l.length).getD k 0 = rsd (NM l) (rw_ (rws l) k) := by
  have hk : k < (rws l).length := by rw [rws_len]; exact h
  unfold rsT rw_
  rw [List.getD_eq_getElem?_getD, List.getElem?_map, List.getElem?_take, if_pos h, List.getElem?_eq_getElem hk, List.getD_eq_getElem?_getD, List.getElem?_eq_getElem hk]
  rfl
theorem rws_sb' {l : List Ep} (h : SRight l) : SB (NM l) := rws_sb h
theorem rsT_ib {l : List Ep} (h : SRight l) : IB (rsT l l.length) := fun k hk => by
  rw [rsT_len l _ (Nat.le_refl _)] at hk
  rw [rsT_get l k hk]
  have := rsd_bd (rws_sb' h) ((rws_rb h).at k (by rw [rws_len]; exact hk))
  omega
section
variable {l : List Ep} {nm : ByteArray}
theorem Residuals_e {m : Mem} {v : Value} (c : Int) (hS : SlE m v l) (hn : nm.size ≤ 1000) (hl : l.length ≤ 1000) (hc : srE nm.data.toList l = c) (hc0 : c ≠ 0) :
    PCalls Try.prog 44 [srV nm v] m (.tuple #[.slice none 0 0, .int .i64 c]) := by
  have HC := fun (m : Mem) (v : Value) (hS : SlE m v l) => solvable_e c hS hn hl hc hc0
  refine Sh.up (us := []) hS rfl rfl fun v m0 h => ?_
  have hro := h.ro
  rcases h with ⟨rfl, rfl, h3⟩ | ⟨rfl, rfl, h3⟩ | ⟨z, rfl, rfl⟩
  all_goals
    refine PCalls.enter (t := [srV nm _, undef, undef, undef, undef, undef, undef, undef, undef, undef, undef, undef, undef, undef, undef, undef, undef, undef, undef, undef, undef, undef, undef, undef, undef, undef, undef, undef, undef, undef, undef, undef, undef, undef, undef, undef, undef, undef, undef, undef, undef, undef, undef, undef, undef, undef, undef, undef, undef, undef, undef, undef, undef]) Try.func44 rfl (hro) rfl fun E => ?_
    repeat' (first
      | with_reducible refine Then.n ?_
      | with_reducible refine Then.r ?_
      | with_reducible refine Then.x ?_
      | with_reducible refine InB.n ?_
      | with_reducible refine InB.r ?_
      | with_reducible refine InB.hit ?_
      | with_reducible refine InB.miss (by decide) ?_
      | ((with_reducible refine AL.on ?_); first
        | ((first | ((with_reducible refine AL.k_assign ?_); first | (refine AL.q rfl (OQ.assign (by conv => lhs; whnf)) ?_)) | ((with_reducible refine AL.k_move ?_); first | (refine AL.q rfl (OQ.move (by conv => lhs; whnf)) ?_)) | ((with_reducible refine AL.k_load ?_); first | refine AL.q rfl (OQ.loadN (ty := 24) (n := 2) rfl (by kernel_rfl) (by kernel_rfl) rfl) ?_ | (refine AL.q rfl (OQ.load1 (ty := 132) rfl (by kernel_rfl) (by conv => lhs; whnf)) ?_) | refine AL.q rfl (OQ.loadN (ty := 65) (n := 3) rfl (by kernel_rfl) (by kernel_rfl) rfl) ?_) | ((with_reducible refine AL.k_call ?_); first | refine AL.q rfl (OQ.lenS (xt := 132) (r := (none, 3, true)) rfl (by kernel_rfl)) ?_) | ((with_reducible refine AL.k_extract ?_); first | refine AL.q rfl (OQ.extract rfl rfl) ?_) | ((with_reducible refine AL.k_binOp ?_); first | refine AL.q rfl (OQ.neq rfl rfl) ?_ | refine AL.q rfl (OQ.lss rfl rfl) ?_ | refine AL.q rfl (OQ.addi rfl rfl (by omega)) ?_ | refine AL.q rfl (OQ.add rfl rfl) ?_) | ((with_reducible refine AL.k_fieldAddr ?_); first | refine AL.q rfl (OQ.fieldA (ty := 134) (i := 0) (n := 1) (off := 0) (g := false) rfl (by kernel_rfl) (by decide)) ?_) | ((with_reducible refine AL.k_indexAddr ?_); first | refine AL.q rfl (OQ.idxAddr (ty := 132) (z := 3) (g := true) rfl rfl (by kernel_rfl) (by omega) (by omega)) ?_)); (conv => (arg 5; try tactic => exact nrm)))
        | ((first | first | refine AL.pcall (g := 68) rfl (by kernel_rfl) rfl ((by first | exact HC _ _ (.blk 0 _ rfl rfl rfl) | exact HC _ _ (.nil h3 rfl) | exact HC _ _ (.lost h3 rfl))) ?_); (conv => (arg 5; try tactic => exact nrm)))
        | ((first | ((with_reducible refine AL.k_call ?_); first | refine AL.w rfl (by first | exact OW.appendNil (e := 3) (z := 1) (zs := [.int .i64 0]) (by' := 8) rfl rfl (by kernel_rfl) (by kernel_rfl) (by kernel_rfl) rfl (by kernel_rfl) (by decide) rfl (by decide) (by decide) | exact OW.appendL (e := 3) (z := 1) (zs := [.int .i64 0]) (by' := 8) rfl rfl (by kernel_rfl) (by kernel_rfl) (by kernel_rfl) rfl (by kernel_rfl) (by decide) rfl rfl rfl (by decide) (by omega) rfl rfl (by omega) (by omega)) ?_) | ((with_reducible refine AL.k_alloc ?_); first | refine AL.w rfl (OW.alloc (ty := 134) (z := [.slice none 0 0, .slice none 0 0]) (by kernel_rfl) rfl) ?_ | refine AL.w rfl (OW.alloc (ty := 137) (z := [.int .i64 0, .int .i64 0, .int .i64 0, .int .i64 0, .int .i64 0, .int .i64 0, .int .i64 0, .int .i64 0, .int .i64 0, .int .i64 0, .int .i64 0, .int .i64 0]) (by kernel_rfl) rfl) ?_ | refine AL.w rfl (OW.alloc (ty := 65) (z := [.int .i64 0, .int .i64 0, .int .i64 0]) (by kernel_rfl) rfl) ?_) | ((with_reducible refine AL.k_store ?_); first | (refine AL.w rfl (OW.store (ty := 134) (n := 2) rfl (by conv => lhs; whnf) rfl rfl (by kernel_rfl) rfl rfl (by decide) rfl (Nat.le_of_ble_eq_true rfl) (by intro r h; cases h)) ?_) | (refine AL.w rfl (OW.store (ty := 137) (n := 12) rfl (by conv => lhs; whnf) rfl rfl (by kernel_rfl) rfl rfl (by decide) rfl (Nat.le_of_ble_eq_true rfl) (by intro r h; cases h)) ?_) | (refine AL.w rfl (OW.store (ty := 65) (n := 3) rfl (by conv => lhs; whnf) rfl rfl (by kernel_rfl) rfl rfl (by decide) rfl (Nat.le_of_ble_eq_true rfl) (by intro r h; cases h)) ?_)) | ((with_reducible refine AL.k_box ?_); first | (refine AL.w rfl (OW.box (by conv => lhs; whnf) (by intro r h; cases h)) ?_))); (conv => (arg 5; try tactic => exact nrm)); (conv => (arg 6; try tactic => exact nrm)))
        | refine AL.nil ?_)
      | ((with_reducible refine AW.on ?_); first
        | refine AW.seq ?_
        | refine AW.skip ?_
        | refine AW.exit ?_
        | refine AW.ret ?_
        | refine AW.block ?_
        | (refine AW.draw (id := 4) 7 #[0, 1, 0, 7, 0, 31, 63] (by kernel_rfl) (by kernel_rfl) ?_; (conv => (arg 8; simp only [List.take_succ_cons, List.take_zero])))
        | (refine AW.drawF (id := 9) 13 #[0, 0, 2, 0, 14, 30, 0, 126, 0, 0, 768, 2046, 4094, 8191, 16383] (by kernel_rfl) (by kernel_rfl) ?_; (conv => (arg 8; simp only [List.take_succ_cons, List.take_zero])))
        | refine AW.region ?_
        | (refine AW.conds rfl (fun hc => ?_) (fun hc => ?_) <;> (try simp only [decide_eq_true_eq, decide_eq_false_iff_not, Bool.not_true, Bool.not_false, Bool.not_eq_true', Bool.not_eq_false', Int.not_lt, Int.not_le, Classical.not_not, ne_eq] at hc) <;> first | (exfalso; first | contradiction | (omega); done) | skip))
      | ((with_reducible refine AD.on ?_); first
        | ((first | ((with_reducible refine AD.k_assign ?_); first | (refine AD.q rfl (OQ.assign (by conv => lhs; whnf)) rfl rfl rfl ?_)) | ((with_reducible refine AD.k_load ?_); first | refine AD.q rfl (OQ.loadN (ty := 137) (n := 12) rfl (by kernel_rfl) (by kernel_rfl) rfl) rfl rfl rfl ?_)); (conv => (arg 10; try tactic => exact nrm)))
        | ((first | ((with_reducible refine AD.k_alloc ?_); first | refine AD.new (ty := 65) (z := [.int .i64 0, .int .i64 0, .int .i64 0]) rfl rfl rfl (by kernel_rfl) rfl (Nat.lt_of_lt_of_le (Nat.lt_succ_self _) (Nat.le_of_ble_eq_true rfl)) rfl ?_) | ((with_reducible refine AD.k_store ?_); first | (refine AD.init (ty := 65) (p := 0) rfl rfl rfl rfl rfl rfl (by kernel_rfl) (by conv => lhs; whnf) rfl (by kernel_rfl) rfl rfl rfl (by intro r h; cases h) ?_))); (conv => (arg 10; try tactic => exact nrm)); (conv => (arg 9; try dsimp only [Nat.reduceAdd])); (conv => (arg 11; try tactic => exact nrm)))
        | (refine AD.nil ?_; (conv => (arg 4; simp only [List.drop_succ_cons, List.drop_zero, List.drop_nil])); (conv => (arg 5; try tactic => exact nrm)); (conv => (arg 6; try tactic => exact nrm))))
      | ((with_reducible refine AF.on ?_); first
        | ((first | ((with_reducible refine AF.k_move ?_); first | (refine AF.q 0 (SW.q (OQ.move (by conv => lhs; whnf)) rfl) ?_)) | ((with_reducible refine AF.k_load ?_); first | (refine AF.ql rfl (SW.q (OQ.load1 (ty := 109) rfl (by kernel_rfl) (by conv => lhs; whnf)) rfl) ?_) | (refine AF.ql rfl (SW.q (OQ.load1 (ty := 3) rfl (by kernel_rfl) (by conv => lhs; whnf)) rfl) ?_) | refine AF.ql rfl (SW.q (OQ.loadN (ty := 65) (n := 3) rfl (by kernel_rfl) (by kernel_rfl) rfl) rfl) ?_) | ((with_reducible refine AF.k_binOp ?_); first | refine AF.q 0 (SW.q (OQ.muli rfl rfl (by omega)) rfl) ?_ | refine AF.q 0 (SW.q (OQ.mul rfl rfl) rfl) ?_ | refine AF.q 0 (SW.q (OQ.subi rfl rfl (by omega)) rfl) ?_ | refine AF.q 0 (SW.q (OQ.sub rfl rfl) rfl) ?_) | ((with_reducible refine AF.k_fieldAddr ?_); first | refine AF.q 0 (SW.q (OQ.fieldA (ty := 134) (i := 1) (n := 1) (off := 1) (g := false) rfl (by kernel_rfl) (by decide)) rfl) ?_) | ((with_reducible refine AF.k_indexAddr ?_); first | refine AF.q 0 (SW.q (OQ.idxAddr (ty := 109) (z := 1) (g := false) rfl rfl (by kernel_rfl) (by omega) (by omega)) rfl) ?_)); (conv => (arg 9; try tactic => exact nrmF)); (conv => (arg 11; try simp only [List.nil_append, List.cons_append])))
        | ((first | first | refine AF.n1 0 (SW.w (OW.buildSl (ty := 109) (zs := [.int .i64 0]) (n := 1) (g := false) (by kernel_rfl) (by kernel_rfl) rfl rfl rfl (by decide) (by decide) rfl rfl) rfl) rfl ?_); (conv => (arg 9; try tactic => exact nrmF)); (conv => (arg 11; try simp only [List.nil_append, List.cons_append])); (conv => (arg 10; try tactic => exact nrmF)))
        | (refine AF.nil ?_ (by kernel_rfl); (conv => (arg 4; simp only [List.drop_succ_cons, List.drop_zero, List.drop_nil]))))
      | ((with_reducible refine FinP.on ?_); (first | refine FinP.ret (.tmp (by conv => lhs; whnf) (.tmp (by conv => lhs; whnf) .nil)) ?_ rfl | refine FinP.end (.tmp (by conv => lhs; whnf) (.tmp (by conv => lhs; whnf) .nil)) ?_ rfl); (try simp only [pack, List.drop, List.take]); all_goals (rfl)))
theorem Residuals_0 (hn : nm.size ≤ 1000) (hR : SRight l) (hN : nameB nm.data.toList = true) (h0 : (NM l).det = 0) (z0 : Nat) : PCalls Try.prog 44 [srI nm 0 l.length] [some ⟨flatE l, false, z0⟩] (.tuple #[.slice none 0 0, .int .i64 30]) := by
  have HR := fun (m : Mem) (b : Nat) (blk : Blk) (hb : m.at b = some blk) (hc : blk.cells = flatE l) => solvable_q hn hR hN hb hc rfl
  rw [if_pos h0] at HR
  refine PCalls.enter (t := [srI nm 0 l.length, undef, undef, undef, undef, undef, undef, undef, undef, undef, undef, undef, undef, undef, undef, undef, undef, undef, undef, undef, undef, undef, undef, undef, undef, undef, undef, undef, undef, undef, undef, undef, undef, undef, undef, undef, undef, undef, undef, undef, undef, undef, undef, undef, undef, undef, undef, undef, undef, undef, undef, undef, undef]) Try.func44 rfl (ro1 _ rfl) rfl fun E => ?_
  repeat' (first
    | with_reducible refine Then.n ?_
    | with_reducible refine Then.r ?_
    | with_reducible refine Then.x ?_
    | with_reducible refine InB.n ?_
    | with_reducible refine InB.r ?_
    | with_reducible refine InB.hit ?_
    | with_reducible refine InB.miss (by decide) ?_
    | ((with_reducible refine AL.on ?_); first
      | ((first | ((with_reducible refine AL.k_assign ?_); first | (refine AL.q rfl (OQ.assign (by conv => lhs; whnf)) ?_)) | ((with_reducible refine AL.k_move ?_); first | (refine AL.q rfl (OQ.move (by conv => lhs; whnf)) ?_)) | ((with_reducible refine AL.k_load ?_); first | refine AL.q rfl (OQ.loadN (ty := 24) (n := 2) rfl (by kernel_rfl) (by kernel_rfl) rfl) ?_ | (refine AL.q rfl (OQ.load1 (ty := 132) rfl (by kernel_rfl) (by conv => lhs; whnf)) ?_) | refine AL.q rfl (OQ.loadN (ty := 65) (n := 3) rfl (by kernel_rfl) (by kernel_rfl) rfl) ?_) | ((with_reducible refine AL.k_call ?_); first | refine AL.q rfl (OQ.lenS (xt := 132) (r := (none, 3, true)) rfl (by kernel_rfl)) ?_) | ((with_reducible refine AL.k_extract ?_); first | refine AL.q rfl (OQ.extract rfl rfl) ?_) | ((with_reducible refine AL.k_binOp ?_); first | refine AL.q rfl (OQ.neq rfl rfl) ?_ | refine AL.q rfl (OQ.lss rfl rfl) ?_ | refine AL.q rfl (OQ.addi rfl rfl (by omega)) ?_ | refine AL.q rfl (OQ.add rfl rfl) ?_) | ((with_reducible refine AL.k_fieldAddr ?_); first | refine AL.q rfl (OQ.fieldA (ty := 134) (i := 0) (n := 1) (off := 0) (g := false) rfl (by kernel_rfl) (by decide)) ?_) | ((with_reducible refine AL.k_indexAddr ?_); first | refine AL.q rfl (OQ.idxAddr (ty := 132) (z := 3) (g := true) rfl rfl (by kernel_rfl) (by omega) (by omega)) ?_)); (conv => (arg 5; try tactic => exact nrm)))
      | ((first | ((with_reducible refine AL.k_call ?_); first | refine AL.acall (g := 68) rfl (by kernel_rfl) rfl ((by exact HR _ 0 _ rfl rfl)) ?_ | refine AL.w rfl (by first | exact OW.appendNil (e := 3) (z := 1) (zs := [.int .i64 0]) (by' := 8) rfl rfl (by kernel_rfl) (by kernel_rfl) (by kernel_rfl) rfl (by kernel_rfl) (by decide) rfl (by decide) (by decide) | exact OW.appendL (e := 3) (z := 1) (zs := [.int .i64 0]) (by' := 8) rfl rfl (by kernel_rfl) (by kernel_rfl) (by kernel_rfl) rfl (by kernel_rfl) (by decide) rfl rfl rfl (by decide) (by omega) rfl rfl (by omega) (by omega)) ?_) | ((with_reducible refine AL.k_alloc ?_); first | refine AL.w rfl (OW.alloc (ty := 134) (z := [.slice none 0 0, .slice none 0 0]) (by kernel_rfl) rfl) ?_ | refine AL.w rfl (OW.alloc (ty := 137) (z := [.int .i64 0, .int .i64 0, .int .i64 0, .int .i64 0, .int .i64 0, .int .i64 0, .int .i64 0, .int .i64 0, .int .i64 0, .int .i64 0, .int .i64 0, .int .i64 0]) (by kernel_rfl) rfl) ?_ | refine AL.w rfl (OW.alloc (ty := 65) (z := [.int .i64 0, .int .i64 0, .int .i64 0]) (by kernel_rfl) rfl) ?_) | ((with_reducible refine AL.k_store ?_); first | (refine AL.w rfl (OW.store (ty := 134) (n := 2) rfl (by conv => lhs; whnf) rfl rfl (by kernel_rfl) rfl rfl (by decide) rfl (Nat.le_of_ble_eq_true rfl) (by intro r h; cases h)) ?_) | (refine AL.w rfl (OW.store (ty := 137) (n := 12) rfl (by conv => lhs; whnf) rfl rfl (by kernel_rfl) rfl rfl (by decide) rfl (Nat.le_of_ble_eq_true rfl) (by intro r h; cases h)) ?_) | (refine AL.w rfl (OW.store (ty := 65) (n := 3) rfl (by conv => lhs; whnf) rfl rfl (by kernel_rfl) rfl rfl (by decide) rfl (Nat.le_of_ble_eq_true rfl) (by intro r h; cases h)) ?_)) | ((with_reducible refine AL.k_box ?_); first | (refine AL.w rfl (OW.box (by conv => lhs; whnf) (by intro r h; cases h)) ?_))); (conv => (arg 5; try tactic => exact nrm)); (conv => (arg 6; try tactic => exact nrm)))
      | refine AL.nil ?_)
    | ((with_reducible refine AW.on ?_); first
      | refine AW.seq ?_
      | refine AW.skip ?_
      | refine AW.exit ?_
      | refine AW.ret ?_
      | refine AW.block ?_
      | (refine AW.draw (id := 4) 7 #[0, 1, 0, 7, 0, 31, 63] (by kernel_rfl) (by kernel_rfl) ?_; (conv => (arg 8; simp only [List.take_succ_cons, List.take_zero])))
      | (refine AW.drawF (id := 9) 13 #[0, 0, 2, 0, 14, 30, 0, 126, 0, 0, 768, 2046, 4094, 8191, 16383] (by kernel_rfl) (by kernel_rfl) ?_; (conv => (arg 8; simp only [List.take_succ_cons, List.take_zero])))
      | refine AW.region ?_
      | (refine AW.conds rfl (fun hc => ?_) (fun hc => ?_) <;> (try simp only [decide_eq_true_eq, decide_eq_false_iff_not, Bool.not_true, Bool.not_false, Bool.not_eq_true', Bool.not_eq_false', Int.not_lt, Int.not_le, Classical.not_not, ne_eq] at hc) <;> first | (exfalso; first | contradiction | (omega); done) | skip))
    | ((with_reducible refine AD.on ?_); first
      | ((first | ((with_reducible refine AD.k_assign ?_); first | (refine AD.q rfl (OQ.assign (by conv => lhs; whnf)) rfl rfl rfl ?_)) | ((with_reducible refine AD.k_load ?_); first | refine AD.q rfl (OQ.loadN (ty := 137) (n := 12) rfl (by kernel_rfl) (by kernel_rfl) rfl) rfl rfl rfl ?_)); (conv => (arg 10; try tactic => exact nrm)))
      | ((first | ((with_reducible refine AD.k_alloc ?_); first | refine AD.new (ty := 65) (z := [.int .i64 0, .int .i64 0, .int .i64 0]) rfl rfl rfl (by kernel_rfl) rfl (Nat.lt_of_lt_of_le (Nat.lt_succ_self _) (Nat.le_of_ble_eq_true rfl)) rfl ?_) | ((with_reducible refine AD.k_store ?_); first | (refine AD.init (ty := 65) (p := 0) rfl rfl rfl rfl rfl rfl (by kernel_rfl) (by conv => lhs; whnf) rfl (by kernel_rfl) rfl rfl rfl (by intro r h; cases h) ?_))); (conv => (arg 10; try tactic => exact nrm)); (conv => (arg 9; try dsimp only [Nat.reduceAdd])); (conv => (arg 11; try tactic => exact nrm)))
      | (refine AD.nil ?_; (conv => (arg 4; simp only [List.drop_succ_cons, List.drop_zero, List.drop_nil])); (conv => (arg 5; try tactic => exact nrm)); (conv => (arg 6; try tactic => exact nrm))))
    | ((with_reducible refine AF.on ?_); first
      | ((first | ((with_reducible refine AF.k_move ?_); first | (refine AF.q 0 (SW.q (OQ.move (by conv => lhs; whnf)) rfl) ?_)) | ((with_reducible refine AF.k_load ?_); first | (refine AF.ql rfl (SW.q (OQ.load1 (ty := 109) rfl (by kernel_rfl) (by conv => lhs; whnf)) rfl) ?_) | (refine AF.ql rfl (SW.q (OQ.load1 (ty := 3) rfl (by kernel_rfl) (by conv => lhs; whnf)) rfl) ?_) | refine AF.ql rfl (SW.q (OQ.loadN (ty := 65) (n := 3) rfl (by kernel_rfl) (by kernel_rfl) rfl) rfl) ?_) | ((with_reducible refine AF.k_binOp ?_); first | refine AF.q 0 (SW.q (OQ.muli rfl rfl (by omega)) rfl) ?_ | refine AF.q 0 (SW.q (OQ.mul rfl rfl) rfl) ?_ | refine AF.q 0 (SW.q (OQ.subi rfl rfl (by omega)) rfl) ?_ | refine AF.q 0 (SW.q (OQ.sub rfl rfl) rfl) ?_) | ((with_reducible refine AF.k_fieldAddr ?_); first | refine AF.q 0 (SW.q (OQ.fieldA (ty := 134) (i := 1) (n := 1) (off := 1) (g := false) rfl (by kernel_rfl) (by decide)) rfl) ?_) | ((with_reducible refine AF.k_indexAddr ?_); first | refine AF.q 0 (SW.q (OQ.idxAddr (ty := 109) (z := 1) (g := false) rfl rfl (by kernel_rfl) (by omega) (by omega)) rfl) ?_)); (conv => (arg 9; try tactic => exact nrmF)); (conv => (arg 11; try simp only [List.nil_append, List.cons_append])))
      | ((first | first | refine AF.n1 0 (SW.w (OW.buildSl (ty := 109) (zs := [.int .i64 0]) (n := 1) (g := false) (by kernel_rfl) (by kernel_rfl) rfl rfl rfl (by decide) (by decide) rfl rfl) rfl) rfl ?_); (conv => (arg 9; try tactic => exact nrmF)); (conv => (arg 11; try simp only [List.nil_append, List.cons_append])); (conv => (arg 10; try tactic => exact nrmF)))
      | (refine AF.nil ?_ (by kernel_rfl); (conv => (arg 4; simp only [List.drop_succ_cons, List.drop_zero, List.drop_nil]))))
    | ((with_reducible refine FinP.on ?_); (first | refine FinP.ret (.tmp (by conv => lhs; whnf) (.tmp (by conv => lhs; whnf) .nil)) ?_ rfl | refine FinP.end (.tmp (by conv => lhs; whnf) (.tmp (by conv => lhs; whnf) .nil)) ?_ rfl); (try simp only [pack, List.drop, List.take]); all_goals (rfl)))
theorem Residuals_y (hn : nm.size ≤ 1000) (hR : SRight l) (hN : nameB nm.data.toList = true) (h0 : (NM l).det ≠ 0) (hs : allSm (NM l).det (rsT l l.length) = true) (z0 : Nat) : ACalls Try.prog 44 [srI nm 0 l.length] [some ⟨flatE l, false, z0⟩] (.tuple #[.slice (some ⟨1, 0, none⟩) l.length INF, .int .i64 0]) [some ⟨flatE l, false, z0⟩, some ⟨flatF (frL (NM l).det (rsT l l.length)), true, 2⟩] := by
  have hn1 := hR.n1
  have hn2 := hR.n20
  have HR := fun (m : Mem) (b : Nat) (blk : Blk) (hb : m.at b = some blk) (hc : blk.cells = flatE l) => solvable_q hn hR hN hb hc rfl
  rw [if_neg h0] at HR
  have hnb := (rws_sb hR).nb
  have HD := fun m => det_q (NM l) hnb m
  have HT := fun m => fit_q (NM l) hnb m
  have hw : ∀ {m : Mem} {b : Nat} {blk : Blk} (hb : m.at b = some blk) (hc : blk.cells = flatV ((rws l).map Rw.w)) (k : Nat) (hk : k < l.length), m.ld b (k * 3) 3 = some [.int .i64 (rw_ (rws l) k).x, .int .i64 (rw_ (rws l) k).y, .int .i64 (rw_ (rws l) k).z] := fun hb hc k hk => flatW_ld hb hc k (by rw [rws_len]; exact hk)
  have hw0 : ∀ {m : Mem} {b : Nat} {blk : Blk} (hb : m.at b = some blk) (hc : blk.cells = flatV ((rws l).map Rw.w)), m.ld b 0 3 = some [.int .i64 (rw_ (rws l) 0).x, .int .i64 (rw_ (rws l) 0).y, .int .i64 (rw_ (rws l) 0).z] := fun hb hc => hw hb hc 0 hn1
  have hlv := fun (k : Nat) (hk : k < l.length) => flatP_get (R := rws l) k (by rw [rws_len]; exact hk)
  have hlv0 := hlv 0 hn1
  have hbd : ∀ k, k < l.length → _ := fun k hk => rsd_bd (rws_sb' hR) ((rws_rb hR).at k (by rw [rws_len]; exact hk))
  have HM := fun (k : Nat) (hk : k < l.length) (m : Mem) => times_q (fitF (NM l) 0) (fitF (NM l) 1) (fitF (NM l) 2) (rw_ (rws l) k).x (rw_ (rws l) k).y (rw_ (rws l) k).z (by have := hbd k hk; omega) (by have := hbd k hk; omega) (by have := hbd k hk; omega) m
  have hdf : ∀ k, (rw_ (rws l) k).v * (NM l).det - (fitF (NM l) 0 * (rw_ (rws l) k).x + fitF (NM l) 1 * (rw_ (rws l) k).y + fitF (NM l) 2 * (rw_ (rws l) k).z) = rsd (NM l) (rw_ (rws l) k) := fun k => rfl
  have hdet := hnb.detb
  rw [show Go.Sr.nm (rws l) = NM l from rfl] at hdet
  have HF := fun (m : Mem) (b' cc : Nat) (blk : Blk) (h1 : m.at b' = some blk) (h2 : blk.cells = flatI (rsT l l.length)) => fracs_ok (c := cc) (NM l).det (rsT l l.length) h1 h2 (rsT_len l _ (Nat.le_refl _)) h0 (by omega) (rsT_ib hR) (by rw [rsT_len l _ (Nat.le_refl _)]; omega) (by rw [rsT_len l _ (Nat.le_refl _)]; omega) hs
  have hsu := rsT_succ l
  have hle := rsT_len l
  generalize rsT l = A at *
  have hA0 : A 0 = [] := List.eq_nil_of_length_eq_zero (hle 0 (by omega))
  generalize hfr : frL (NM l).det (A l.length) = FR at *
  clear hs hnb
  refine ACalls.enter (t := [srI nm 0 l.length, undef, undef, undef, undef, undef, undef, undef, undef, undef, undef, undef, undef, undef, undef, undef, undef, undef, undef, undef, undef, undef, undef, undef, undef, undef, undef, undef, undef, undef, undef, undef, undef, undef, undef, undef, undef, undef, undef, undef, undef, undef, undef, undef, undef, undef, undef, undef, undef, undef, undef, undef, undef]) Try.func44 rfl rfl fun E hE => ?_
  repeat' (first
    | with_reducible refine Then.n ?_
    | with_reducible refine Then.r ?_
    | with_reducible refine Then.x ?_
    | with_reducible refine InB.n ?_
    | with_reducible refine InB.r ?_
    | with_reducible refine InB.hit ?_
    | with_reducible refine InB.miss (by decide) ?_
    | ((with_reducible refine AL.on ?_); first
      | ((first | ((with_reducible refine AL.k_assign ?_); first | (refine AL.q rfl (OQ.assign (by conv => lhs; whnf)) ?_)) | ((with_reducible refine AL.k_move ?_); first | (refine AL.q rfl (OQ.move (by conv => lhs; whnf)) ?_)) | ((with_reducible refine AL.k_load ?_); first | refine AL.q rfl (OQ.loadN (ty := 24) (n := 2) rfl (by kernel_rfl) (by kernel_rfl) (by first | (first | exact hw rfl rfl _ (by omega) | exact hw0 rfl rfl | exact hlv _ (by omega) | exact hlv0) | rfl)) ?_ | (refine AL.q rfl (OQ.load1 (ty := 132) rfl (by kernel_rfl) (by first | (first | exact hw rfl rfl _ (by omega) | exact hw0 rfl rfl | exact hlv _ (by omega) | exact hlv0) | (conv => lhs; whnf))) ?_) | refine AL.q rfl (OQ.loadN (ty := 65) (n := 3) rfl (by kernel_rfl) (by kernel_rfl) (by first | (first | exact hw rfl rfl _ (by omega) | exact hw0 rfl rfl | exact hlv _ (by omega) | exact hlv0) | rfl)) ?_) | ((with_reducible refine AL.k_call ?_); first | refine AL.q rfl (OQ.lenS (xt := 132) (r := (none, 3, true)) rfl (by kernel_rfl)) ?_) | ((with_reducible refine AL.k_extract ?_); first | refine AL.q rfl (OQ.extract rfl rfl) ?_) | ((with_reducible refine AL.k_binOp ?_); first | refine AL.q rfl (OQ.neq rfl rfl) ?_ | refine AL.q rfl (OQ.lss rfl rfl) ?_ | refine AL.q rfl (OQ.addi rfl rfl (by omega)) ?_ | refine AL.q rfl (OQ.add rfl rfl) ?_)); (conv => (arg 5; try tactic => exact nrm)))
      | ((first | ((with_reducible refine AL.k_fieldAddr ?_); first | refine AL.q rfl (OQ.fieldA (ty := 134) (i := 0) (n := 1) (off := 0) (g := false) rfl (by kernel_rfl) (by decide)) ?_) | ((with_reducible refine AL.k_indexAddr ?_); first | refine AL.q rfl (OQ.idxAddr (ty := 132) (z := 3) (g := true) rfl rfl (by kernel_rfl) (by omega) (by omega)) ?_)); (conv => (arg 5; try tactic => exact nrm)))
      | ((first | ((with_reducible refine AL.k_call ?_); first | refine AL.acall (g := 68) rfl (by kernel_rfl) rfl ((by exact HR _ 0 _ rfl rfl)) ?_ | refine AL.w rfl (by first | exact OW.appendNil (e := 3) (z := 1) (zs := [.int .i64 0]) (by' := 8) rfl rfl (by kernel_rfl) (by kernel_rfl) (by kernel_rfl) rfl (by kernel_rfl) (by decide) rfl (by decide) (by decide) | exact OW.appendL (e := 3) (z := 1) (zs := [.int .i64 0]) (by' := 8) rfl rfl (by kernel_rfl) (by kernel_rfl) (by kernel_rfl) rfl (by kernel_rfl) (by decide) rfl rfl rfl (by decide) (by exact flatI_len _) rfl rfl (by omega) (by omega)) ?_ | refine AL.acall (g := 70) rfl (by kernel_rfl) rfl ((by exact HF _ _ _ _ rfl rfl)) ?_) | ((with_reducible refine AL.k_alloc ?_); first | refine AL.w rfl (OW.alloc (ty := 134) (z := [.slice none 0 0, .slice none 0 0]) (by kernel_rfl) rfl) ?_ | refine AL.w rfl (OW.alloc (ty := 137) (z := [.int .i64 0, .int .i64 0, .int .i64 0, .int .i64 0, .int .i64 0, .int .i64 0, .int .i64 0, .int .i64 0, .int .i64 0, .int .i64 0, .int .i64 0, .int .i64 0]) (by kernel_rfl) rfl) ?_ | refine AL.w rfl (OW.alloc (ty := 65) (z := [.int .i64 0, .int .i64 0, .int .i64 0]) (by kernel_rfl) rfl) ?_) | ((with_reducible refine AL.k_store ?_); first | (refine AL.w rfl (OW.store (ty := 134) (n := 2) rfl (by conv => lhs; whnf) rfl rfl (by kernel_rfl) rfl rfl (by decide) rfl (Nat.le_of_ble_eq_true rfl) (by intro r h; cases h)) ?_) | (refine AL.w rfl (OW.store (ty := 137) (n := 12) rfl (by conv => lhs; whnf) rfl rfl (by kernel_rfl) rfl rfl (by decide) rfl (Nat.le_of_ble_eq_true rfl) (by intro r h; cases h)) ?_) | (refine AL.w rfl (OW.store (ty := 65) (n := 3) rfl (by conv => lhs; whnf) rfl rfl (by kernel_rfl) rfl rfl (by decide) rfl (Nat.le_of_ble_eq_true rfl) (by intro r h; cases h)) ?_)) | ((with_reducible refine AL.k_box ?_); first | (refine AL.w rfl (OW.box (by conv => lhs; whnf) (by intro r h; cases h)) ?_))); (conv => (arg 5; try tactic => exact nrm)); (conv => (arg 6; try tactic => exact nrm)))
      | refine AL.nil ?_)
    | ((with_reducible refine AW.on ?_); first
      | refine AW.seq ?_
      | refine AW.skip ?_
      | refine AW.exit ?_
      | refine AW.ret ?_
      | ((refine AW.block (id := 0) ?_); (refine AW.wk (Wk.forget [false, false, false, false, true, false, false, true, true, true, false, false, false, false, false, false, false, false, false, false, false, false, false, false, false, false, true, true, true, false, false, false, false, false, false, false, false, false, false, false, false, false, false, false, false, false, false, false, false, false, false, false, false] rfl) ?_); (conv => (arg 4; simp only [fgt, if_true, if_false, Bool.false_eq_true])); (refine AW.loop (fun n t' m => ∃ k : Nat, n = l.length - k ∧ k ≤ l.length ∧ ((k = 0 ∧ t' = [junk, junk, junk, junk, .pointer (some ⟨4, 0, none⟩), junk, junk, .pointer (some ⟨6, 0, none⟩), .int .i64 ((NM l).det), .slice none 0 0, junk, junk, junk, junk, junk, junk, junk, junk, junk, junk, junk, junk, junk, junk, junk, junk, .slice (some ⟨2, 0, none⟩) (l.length) INF, .int .i64 (l.length), .int .i64 (0), junk, junk, junk, junk, junk, junk, junk, junk, junk, junk, junk, junk, junk, junk, junk, junk, junk, junk, junk, junk, junk, junk, junk, junk] ∧ m = [some ⟨flatE l, false, z0⟩, some ⟨[.string nm, .slice (some ⟨0, 0, none⟩) (l.length) INF], true, 0⟩, some ⟨flatV ((rws l).map Rw.w), true, 3⟩, some ⟨flatI ((rws l).map Rw.v), true, 1⟩, some ⟨[.slice (some ⟨2, 0, none⟩) (l.length) INF, .slice (some ⟨3, 0, none⟩) (l.length) INF], true, 0⟩, some ⟨[.int .i64 ((NM l).xx), .int .i64 ((NM l).xy), .int .i64 ((NM l).xz), .int .i64 ((NM l).xy), .int .i64 ((NM l).yy), .int .i64 ((NM l).yz), .int .i64 ((NM l).xz), .int .i64 ((NM l).yz), .int .i64 ((NM l).zz), .int .i64 ((NM l).p), .int .i64 ((NM l).q), .int .i64 ((NM l).r)], true, 0⟩, some ⟨[.int .i64 (fitF (NM l) 0), .int .i64 (fitF (NM l) 1), .int .i64 (fitF (NM l) 2)], true, 0⟩]) ∨ (0 < k ∧ t' = [junk, junk, junk, junk, .pointer (some ⟨4, 0, none⟩), junk, junk, .pointer (some ⟨6, 0, none⟩), .int .i64 ((NM l).det), .slice (some ⟨7, 0, none⟩) ((A k).length) INF, junk, junk, junk, junk, junk, junk, junk, junk, junk, junk, junk, junk, junk, junk, junk, junk, .slice (some ⟨2, 0, none⟩) (l.length) INF, .int .i64 (l.length), .int .i64 (k), junk, junk, junk, junk, junk, junk, junk, junk, junk, junk, junk, junk, junk, junk, junk, junk, junk, junk, junk, junk, junk, junk, junk, junk] ∧ m = [some ⟨flatE l, false, z0⟩, some ⟨[.string nm, .slice (some ⟨0, 0, none⟩) (l.length) INF], true, 0⟩, some ⟨flatV ((rws l).map Rw.w), true, 3⟩, some ⟨flatI ((rws l).map Rw.v), true, 1⟩, some ⟨[.slice (some ⟨2, 0, none⟩) (l.length) INF, .slice (some ⟨3, 0, none⟩) (l.length) INF], true, 0⟩, some ⟨[.int .i64 ((NM l).xx), .int .i64 ((NM l).xy), .int .i64 ((NM l).xz), .int .i64 ((NM l).xy), .int .i64 ((NM l).yy), .int .i64 ((NM l).yz), .int .i64 ((NM l).xz), .int .i64 ((NM l).yz), .int .i64 ((NM l).zz), .int .i64 ((NM l).p), .int .i64 ((NM l).q), .int .i64 ((NM l).r)], true, 0⟩, some ⟨[.int .i64 (fitF (NM l) 0), .int .i64 (fitF (NM l) 1), .int .i64 (fitF (NM l) 2)], true, 0⟩, some ⟨flatI (A k), true, 1⟩]))) (l.length) (by exact ⟨0, rfl, Nat.zero_le _, .inl ⟨rfl, rfl, rfl⟩⟩) ?_); (rintro n t' m ⟨k, rfl, hk, (⟨rfl, rfl, rfl⟩ | ⟨hk0, rfl, rfl⟩)⟩))
      | refine AW.block ?_
      | (refine AW.draw (id := 4) 7 #[0, 1, 0, 7, 0, 31, 63] (by kernel_rfl) (by kernel_rfl) ?_; (conv => (arg 8; simp only [List.take_succ_cons, List.take_zero])))
      | (refine AW.drawF (id := 9) 13 #[0, 0, 2, 0, 14, 30, 0, 126, 0, 0, 768, 2046, 4094, 8191, 16383] (by kernel_rfl) (by kernel_rfl) ?_; (conv => (arg 8; simp only [List.take_succ_cons, List.take_zero])))
      | (refine AW.region (id := 3) ?_; exfalso; omega; done)
      | (refine AW.region (id := 7) ?_; ((have hlk := hle k hk)))
      | (refine AW.region (id := 8) ?_; (first | (have hb := hbd k (by omega); have hv := (rws_rb hR).at k (by rw [rws_len]; omega)) | (have hb := hbd 0 (by omega); have hv := (rws_rb hR).at 0 (by rw [rws_len]; omega))))
      | (refine AW.region (id := 11) ?_; ((obtain rfl : k = l.length := (by omega); rw [hlk])))
      | refine AW.region ?_
      | (refine AW.conds rfl (fun hc => ?_) (fun hc => ?_) <;> (try simp only [decide_eq_true_eq, decide_eq_false_iff_not, Bool.not_true, Bool.not_false, Bool.not_eq_true', Bool.not_eq_false', Int.not_lt, Int.not_le, Classical.not_not, ne_eq] at hc) <;> first | (exfalso; first | contradiction | (omega); done) | skip))
    | ((with_reducible refine AD.on ?_); first
      | ((first | ((with_reducible refine AD.k_assign ?_); first | (refine AD.q rfl (OQ.assign (by conv => lhs; whnf)) rfl rfl rfl ?_)) | ((with_reducible refine AD.k_load ?_); first | refine AD.q rfl (OQ.loadN (ty := 137) (n := 12) rfl (by kernel_rfl) (by kernel_rfl) (by first | (first | exact hw rfl rfl _ (by omega) | exact hw0 rfl rfl | exact hlv _ (by omega) | exact hlv0) | rfl)) rfl rfl rfl ?_)); (conv => (arg 10; try tactic => exact nrm)))
      | ((first | first | refine AD.pcall (g := 69) rfl (by kernel_rfl) rfl (HT _) rfl rfl ?_ | refine AD.pcall (g := 71) rfl (by kernel_rfl) rfl (HD _) rfl rfl ?_); (conv => (arg 10; try tactic => exact nrm)))
      | ((first | ((with_reducible refine AD.k_alloc ?_); first | refine AD.new (ty := 65) (z := [.int .i64 0, .int .i64 0, .int .i64 0]) rfl rfl rfl (by kernel_rfl) rfl (Nat.lt_of_lt_of_le (Nat.lt_succ_self _) (Nat.le_of_ble_eq_true rfl)) rfl ?_) | ((with_reducible refine AD.k_store ?_); first | (refine AD.init (ty := 65) (p := 0) rfl rfl rfl rfl rfl rfl (by kernel_rfl) (by conv => lhs; whnf) rfl (by kernel_rfl) rfl rfl rfl (by intro r h; cases h) ?_))); (conv => (arg 10; try tactic => exact nrm)); (conv => (arg 9; try dsimp only [Nat.reduceAdd])); (conv => (arg 11; try tactic => exact nrm)))
      | (refine AD.nil ?_; (conv => (arg 4; simp only [List.drop_succ_cons, List.drop_zero, List.drop_nil])); (conv => (arg 5; try tactic => exact nrm)); (conv => (arg 6; try tactic => exact nrm))))
    | ((with_reducible refine AF.on ?_); first
      | ((first | ((with_reducible refine AF.k_move ?_); first | (refine AF.q 0 (SW.q (OQ.move (by conv => lhs; whnf)) rfl) ?_)) | ((with_reducible refine AF.k_load ?_); first | (refine AF.ql rfl (SW.q (OQ.load1 (ty := 109) rfl (by kernel_rfl) (by first | (first | exact hw rfl rfl _ (by omega) | exact hw0 rfl rfl | exact hlv _ (by omega) | exact hlv0) | (conv => lhs; whnf))) rfl) ?_) | (refine AF.ql rfl (SW.q (OQ.load1 (ty := 3) rfl (by kernel_rfl) (by first | (first | exact hw rfl rfl _ (by omega) | exact hw0 rfl rfl | exact hlv _ (by omega) | exact hlv0) | (conv => lhs; whnf))) rfl) ?_) | refine AF.ql rfl (SW.q (OQ.loadN (ty := 65) (n := 3) rfl (by kernel_rfl) (by kernel_rfl) (by first | (first | exact hw rfl rfl _ (by omega) | exact hw0 rfl rfl | exact hlv _ (by omega) | exact hlv0) | rfl)) rfl) ?_) | ((with_reducible refine AF.k_call ?_); first | refine AF.q 2 (SW.pcall (g := 91) rfl (by kernel_rfl) rfl ((by first | exact HM _ (by omega) _ | exact HM 0 (by omega) _)) rfl) ?_) | ((with_reducible refine AF.k_binOp ?_); first | refine AF.q 0 (SW.q (OQ.muli rfl rfl (by omega)) rfl) ?_ | refine AF.q 0 (SW.q (OQ.mul rfl rfl) rfl) ?_ | refine AF.q 0 (SW.q (OQ.subi rfl rfl (by omega)) rfl) ?_ | refine AF.q 0 (SW.q (OQ.sub rfl rfl) rfl) ?_) | ((with_reducible refine AF.k_fieldAddr ?_); first | refine AF.q 0 (SW.q (OQ.fieldA (ty := 134) (i := 1) (n := 1) (off := 1) (g := false) rfl (by kernel_rfl) (by decide)) rfl) ?_) | ((with_reducible refine AF.k_indexAddr ?_); first | refine AF.q 0 (SW.q (OQ.idxAddr (ty := 109) (z := 1) (g := false) rfl rfl (by kernel_rfl) (by omega) (by omega)) rfl) ?_)); (conv => (arg 9; try tactic => exact nrmF)); (conv => (arg 11; try simp only [List.nil_append, List.cons_append])))
      | ((first | first | refine AF.n1 0 (SW.w (OW.buildSl (ty := 109) (zs := [.int .i64 0]) (n := 1) (g := false) (by kernel_rfl) (by kernel_rfl) rfl rfl rfl (by decide) (by decide) rfl rfl) rfl) rfl ?_); (conv => (arg 9; try tactic => exact nrmF)); (conv => (arg 11; try simp only [List.nil_append, List.cons_append])); (conv => (arg 10; try tactic => exact nrmF)))
      | (refine AF.nil ?_ (by kernel_rfl); (conv => (arg 4; simp only [List.drop_succ_cons, List.drop_zero, List.drop_nil]))))
    | ((with_reducible refine ex_on ?_); first | (refine ⟨l.length - (0 + 1), _, _, by omega, ?_, 1, rfl, by omega, .inr ⟨by omega, rfl, rfl⟩⟩; rw [hsu 0 (by omega), hA0]; exact Wk.keep 7 [9] (by rw [hE]; exact (by decide : 1 ≤ 7)) rfl rfl (by repeat (first | exact RenT.nil | refine RenT.junk ?_ | refine RenT.val (by first | rfl | with_reducible assumption | (simp only [rn3, rn2, rn1, kσ]; done)) (by first | rfl | assumption | (simp [ok3, ok2, ok1]; done)) ?_)) ⟨⟨_, rfl, rfl, rfl, .inl ⟨rfl, flatE_scal l⟩⟩, ⟨_, rfl, rfl, rfl, .inr ⟨rfl, rfl⟩⟩, ⟨_, rfl, rfl, rfl, .inl ⟨rfl, flatV_scal _⟩⟩, ⟨_, rfl, rfl, rfl, .inl ⟨rfl, flatI_scal _⟩⟩, ⟨_, rfl, rfl, rfl, .inr ⟨rfl, rfl⟩⟩, ⟨_, rfl, rfl, rfl, .inl ⟨rfl, rfl⟩⟩, ⟨_, rfl, rfl, rfl, .inl ⟨rfl, rfl⟩⟩, ⟨_, rfl, rfl, rfl, .inl ⟨rfl, rfl⟩⟩, trivial⟩) | (refine ⟨l.length - (k + 1), _, _, by omega, ?_, k + 1, rfl, by omega, .inr ⟨by omega, rfl, rfl⟩⟩; rw [hsu k (by omega), List.length_append]; exact Wk.keep 7 [10] (by rw [hE]; exact (by decide : 1 ≤ 7)) rfl rfl (by repeat (first | exact RenT.nil | refine RenT.junk ?_ | refine RenT.val (by first | rfl | with_reducible assumption | (simp only [rn3, rn2, rn1, kσ]; done)) (by first | rfl | assumption | (simp [ok3, ok2, ok1]; done)) ?_)) ⟨⟨_, rfl, rfl, rfl, .inl ⟨rfl, flatE_scal l⟩⟩, ⟨_, rfl, rfl, rfl, .inr ⟨rfl, rfl⟩⟩, ⟨_, rfl, rfl, rfl, .inl ⟨rfl, flatV_scal _⟩⟩, ⟨_, rfl, rfl, rfl, .inl ⟨rfl, flatI_scal _⟩⟩, ⟨_, rfl, rfl, rfl, .inr ⟨rfl, rfl⟩⟩, ⟨_, rfl, rfl, rfl, .inl ⟨rfl, rfl⟩⟩, ⟨_, rfl, rfl, rfl, .inl ⟨rfl, rfl⟩⟩, ⟨_, rfl, rfl, rfl, .inl ⟨flatI_snoc _ _, flatI_scal _⟩⟩, trivial⟩))
    | ((with_reducible refine FinA.on ?_); (refine FinA.keep 1 [8] (.inl rfl) (.tmp (by conv => lhs; whnf) (.tmp (by conv => lhs; whnf) .nil)) ?_ rfl (Nat.le_of_eq hE) rfl rfl ⟨⟨_, rfl, rfl, rfl, .inl ⟨rfl, flatE_scal l⟩⟩, ⟨_, rfl, rfl, rfl, .inl ⟨rfl, by rw [← hfr]; exact flatF_scal _⟩⟩, trivial⟩; rfl)))
theorem Residuals_n (hn : nm.size ≤ 1000) (hR : SRight l) (hN : nameB nm.data.toList = true) (h0 : (NM l).det ≠ 0) (hs : allSm (NM l).det (rsT l l.length) = false) (z0 : Nat) : ACalls Try.prog 44 [srI nm 0 l.length] [some ⟨flatE l, false, z0⟩] (.tuple #[.slice none 0 0, .int .i64 8]) [some ⟨flatE l, false, z0⟩] := by
  have hn1 := hR.n1
  have hn2 := hR.n20
  have HR := fun (m : Mem) (b : Nat) (blk : Blk) (hb : m.at b = some blk) (hc : blk.cells = flatE l) => solvable_q hn hR hN hb hc rfl
  rw [if_neg h0] at HR
  have hnb := (rws_sb hR).nb
  have HD := fun m => det_q (NM l) hnb m
  have HT := fun m => fit_q (NM l) hnb m
  have hw : ∀ {m : Mem} {b : Nat} {blk : Blk} (hb : m.at b = some blk) (hc : blk.cells = flatV ((rws l).map Rw.w)) (k : Nat) (hk : k < l.length), m.ld b (k * 3) 3 = some [.int .i64 (rw_ (rws l) k).x, .int .i64 (rw_ (rws l) k).y, .int .i64 (rw_ (rws l) k).z] := fun hb hc k hk => flatW_ld hb hc k (by rw [rws_len]; exact hk)
  have hw0 : ∀ {m : Mem} {b : Nat} {blk : Blk} (hb : m.at b = some blk) (hc : blk.cells = flatV ((rws l).map Rw.w)), m.ld b 0 3 = some [.int .i64 (rw_ (rws l) 0).x, .int .i64 (rw_ (rws l) 0).y, .int .i64 (rw_ (rws l) 0).z] := fun hb hc => hw hb hc 0 hn1
  have hlv := fun (k : Nat) (hk : k < l.length) => flatP_get (R := rws l) k (by rw [rws_len]; exact hk)
  have hlv0 := hlv 0 hn1
  have hbd : ∀ k, k < l.length → _ := fun k hk => rsd_bd (rws_sb' hR) ((rws_rb hR).at k (by rw [rws_len]; exact hk))
  have HM := fun (k : Nat) (hk : k < l.length) (m : Mem) => times_q (fitF (NM l) 0) (fitF (NM l) 1) (fitF (NM l) 2) (rw_ (rws l) k).x (rw_ (rws l) k).y (rw_ (rws l) k).z (by have := hbd k hk; omega) (by have := hbd k hk; omega) (by have := hbd k hk; omega) m
  have hdf : ∀ k, (rw_ (rws l) k).v * (NM l).det - (fitF (NM l) 0 * (rw_ (rws l) k).x + fitF (NM l) 1 * (rw_ (rws l) k).y + fitF (NM l) 2 * (rw_ (rws l) k).z) = rsd (NM l) (rw_ (rws l) k) := fun k => rfl
  have hdet := hnb.detb
  rw [show Go.Sr.nm (rws l) = NM l from rfl] at hdet
  have HF := fun (m : Mem) (b' cc : Nat) (blk : Blk) (h1 : m.at b' = some blk) (h2 : blk.cells = flatI (rsT l l.length)) => fracs_bad (c := cc) (NM l).det (rsT l l.length) h1 h2 (rsT_len l _ (Nat.le_refl _)) h0 (by omega) (rsT_ib hR)  (by rw [rsT_len l _ (Nat.le_refl _)]; omega) hs
  have hsu := rsT_succ l
  have hle := rsT_len l
  generalize rsT l = A at *
  have hA0 : A 0 = [] := List.eq_nil_of_length_eq_zero (hle 0 (by omega))
  generalize hfr : frL (NM l).det (A l.length) = FR at *
  clear hs hnb
  refine ACalls.enter (t := [srI nm 0 l.length, undef, undef, undef, undef, undef, undef, undef, undef, undef, undef, undef, undef, undef, undef, undef, undef, undef, undef, undef, undef, undef, undef, undef, undef, undef, undef, undef, undef, undef, undef, undef, undef, undef, undef, undef, undef, undef, undef, undef, undef, undef, undef, undef, undef, undef, undef, undef, undef, undef, undef, undef, undef]) Try.func44 rfl rfl fun E hE => ?_
  repeat' (first
    | with_reducible refine Then.n ?_
    | with_reducible refine Then.r ?_
    | with_reducible refine Then.x ?_
    | with_reducible refine InB.n ?_
    | with_reducible refine InB.r ?_
    | with_reducible refine InB.hit ?_
    | with_reducible refine InB.miss (by decide) ?_
    | ((with_reducible refine AL.on ?_); first
      | ((first | ((with_reducible refine AL.k_assign ?_); first | (refine AL.q rfl (OQ.assign (by conv => lhs; whnf)) ?_)) | ((with_reducible refine AL.k_move ?_); first | (refine AL.q rfl (OQ.move (by conv => lhs; whnf)) ?_)) | ((with_reducible refine AL.k_load ?_); first | refine AL.q rfl (OQ.loadN (ty := 24) (n := 2) rfl (by kernel_rfl) (by kernel_rfl) (by first | (first | exact hw rfl rfl _ (by omega) | exact hw0 rfl rfl | exact hlv _ (by omega) | exact hlv0) | rfl)) ?_ | (refine AL.q rfl (OQ.load1 (ty := 132) rfl (by kernel_rfl) (by first | (first | exact hw rfl rfl _ (by omega) | exact hw0 rfl rfl | exact hlv _ (by omega) | exact hlv0) | (conv => lhs; whnf))) ?_) | refine AL.q rfl (OQ.loadN (ty := 65) (n := 3) rfl (by kernel_rfl) (by kernel_rfl) (by first | (first | exact hw rfl rfl _ (by omega) | exact hw0 rfl rfl | exact hlv _ (by omega) | exact hlv0) | rfl)) ?_) | ((with_reducible refine AL.k_call ?_); first | refine AL.q rfl (OQ.lenS (xt := 132) (r := (none, 3, true)) rfl (by kernel_rfl)) ?_) | ((with_reducible refine AL.k_extract ?_); first | refine AL.q rfl (OQ.extract rfl rfl) ?_) | ((with_reducible refine AL.k_binOp ?_); first | refine AL.q rfl (OQ.neq rfl rfl) ?_ | refine AL.q rfl (OQ.lss rfl rfl) ?_ | refine AL.q rfl (OQ.addi rfl rfl (by omega)) ?_ | refine AL.q rfl (OQ.add rfl rfl) ?_)); (conv => (arg 5; try tactic => exact nrm)))
      | ((first | ((with_reducible refine AL.k_call ?_); first | refine AL.pcall (g := 70) rfl (by kernel_rfl) rfl (HF _ _ _ _ rfl rfl) ?_) | ((with_reducible refine AL.k_fieldAddr ?_); first | refine AL.q rfl (OQ.fieldA (ty := 134) (i := 0) (n := 1) (off := 0) (g := false) rfl (by kernel_rfl) (by decide)) ?_) | ((with_reducible refine AL.k_indexAddr ?_); first | refine AL.q rfl (OQ.idxAddr (ty := 132) (z := 3) (g := true) rfl rfl (by kernel_rfl) (by omega) (by omega)) ?_)); (conv => (arg 5; try tactic => exact nrm)))
      | ((first | ((with_reducible refine AL.k_call ?_); first | refine AL.acall (g := 68) rfl (by kernel_rfl) rfl ((by exact HR _ 0 _ rfl rfl)) ?_ | refine AL.w rfl (by first | exact OW.appendNil (e := 3) (z := 1) (zs := [.int .i64 0]) (by' := 8) rfl rfl (by kernel_rfl) (by kernel_rfl) (by kernel_rfl) rfl (by kernel_rfl) (by decide) rfl (by decide) (by decide) | exact OW.appendL (e := 3) (z := 1) (zs := [.int .i64 0]) (by' := 8) rfl rfl (by kernel_rfl) (by kernel_rfl) (by kernel_rfl) rfl (by kernel_rfl) (by decide) rfl rfl rfl (by decide) (by exact flatI_len _) rfl rfl (by omega) (by omega)) ?_) | ((with_reducible refine AL.k_alloc ?_); first | refine AL.w rfl (OW.alloc (ty := 134) (z := [.slice none 0 0, .slice none 0 0]) (by kernel_rfl) rfl) ?_ | refine AL.w rfl (OW.alloc (ty := 137) (z := [.int .i64 0, .int .i64 0, .int .i64 0, .int .i64 0, .int .i64 0, .int .i64 0, .int .i64 0, .int .i64 0, .int .i64 0, .int .i64 0, .int .i64 0, .int .i64 0]) (by kernel_rfl) rfl) ?_ | refine AL.w rfl (OW.alloc (ty := 65) (z := [.int .i64 0, .int .i64 0, .int .i64 0]) (by kernel_rfl) rfl) ?_) | ((with_reducible refine AL.k_store ?_); first | (refine AL.w rfl (OW.store (ty := 134) (n := 2) rfl (by conv => lhs; whnf) rfl rfl (by kernel_rfl) rfl rfl (by decide) rfl (Nat.le_of_ble_eq_true rfl) (by intro r h; cases h)) ?_) | (refine AL.w rfl (OW.store (ty := 137) (n := 12) rfl (by conv => lhs; whnf) rfl rfl (by kernel_rfl) rfl rfl (by decide) rfl (Nat.le_of_ble_eq_true rfl) (by intro r h; cases h)) ?_) | (refine AL.w rfl (OW.store (ty := 65) (n := 3) rfl (by conv => lhs; whnf) rfl rfl (by kernel_rfl) rfl rfl (by decide) rfl (Nat.le_of_ble_eq_true rfl) (by intro r h; cases h)) ?_)) | ((with_reducible refine AL.k_box ?_); first | (refine AL.w rfl (OW.box (by conv => lhs; whnf) (by intro r h; cases h)) ?_))); (conv => (arg 5; try tactic => exact nrm)); (conv => (arg 6; try tactic => exact nrm)))
      | refine AL.nil ?_)
    | ((with_reducible refine AW.on ?_); first
      | refine AW.seq ?_
      | refine AW.skip ?_
      | refine AW.exit ?_
      | refine AW.ret ?_
      | ((refine AW.block (id := 0) ?_); (refine AW.wk (Wk.forget [false, false, false, false, true, false, false, true, true, true, false, false, false, false, false, false, false, false, false, false, false, false, false, false, false, false, true, true, true, false, false, false, false, false, false, false, false, false, false, false, false, false, false, false, false, false, false, false, false, false, false, false, false] rfl) ?_); (conv => (arg 4; simp only [fgt, if_true, if_false, Bool.false_eq_true])); (refine AW.loop (fun n t' m => ∃ k : Nat, n = l.length - k ∧ k ≤ l.length ∧ ((k = 0 ∧ t' = [junk, junk, junk, junk, .pointer (some ⟨4, 0, none⟩), junk, junk, .pointer (some ⟨6, 0, none⟩), .int .i64 ((NM l).det), .slice none 0 0, junk, junk, junk, junk, junk, junk, junk, junk, junk, junk, junk, junk, junk, junk, junk, junk, .slice (some ⟨2, 0, none⟩) (l.length) INF, .int .i64 (l.length), .int .i64 (0), junk, junk, junk, junk, junk, junk, junk, junk, junk, junk, junk, junk, junk, junk, junk, junk, junk, junk, junk, junk, junk, junk, junk, junk] ∧ m = [some ⟨flatE l, false, z0⟩, some ⟨[.string nm, .slice (some ⟨0, 0, none⟩) (l.length) INF], true, 0⟩, some ⟨flatV ((rws l).map Rw.w), true, 3⟩, some ⟨flatI ((rws l).map Rw.v), true, 1⟩, some ⟨[.slice (some ⟨2, 0, none⟩) (l.length) INF, .slice (some ⟨3, 0, none⟩) (l.length) INF], true, 0⟩, some ⟨[.int .i64 ((NM l).xx), .int .i64 ((NM l).xy), .int .i64 ((NM l).xz), .int .i64 ((NM l).xy), .int .i64 ((NM l).yy), .int .i64 ((NM l).yz), .int .i64 ((NM l).xz), .int .i64 ((NM l).yz), .int .i64 ((NM l).zz), .int .i64 ((NM l).p), .int .i64 ((NM l).q), .int .i64 ((NM l).r)], true, 0⟩, some ⟨[.int .i64 (fitF (NM l) 0), .int .i64 (fitF (NM l) 1), .int .i64 (fitF (NM l) 2)], true, 0⟩]) ∨ (0 < k ∧ t' = [junk, junk, junk, junk, .pointer (some ⟨4, 0, none⟩), junk, junk, .pointer (some ⟨6, 0, none⟩), .int .i64 ((NM l).det), .slice (some ⟨7, 0, none⟩) ((A k).length) INF, junk, junk, junk, junk, junk, junk, junk, junk, junk, junk, junk, junk, junk, junk, junk, junk, .slice (some ⟨2, 0, none⟩) (l.length) INF, .int .i64 (l.length), .int .i64 (k), junk, junk, junk, junk, junk, junk, junk, junk, junk, junk, junk, junk, junk, junk, junk, junk, junk, junk, junk, junk, junk, junk, junk, junk] ∧ m = [some ⟨flatE l, false, z0⟩, some ⟨[.string nm, .slice (some ⟨0, 0, none⟩) (l.length) INF], true, 0⟩, some ⟨flatV ((rws l).map Rw.w), true, 3⟩, some ⟨flatI ((rws l).map Rw.v), true, 1⟩, some ⟨[.slice (some ⟨2, 0, none⟩) (l.length) INF, .slice (some ⟨3, 0, none⟩) (l.length) INF], true, 0⟩, some ⟨[.int .i64 ((NM l).xx), .int .i64 ((NM l).xy), .int .i64 ((NM l).xz), .int .i64 ((NM l).xy), .int .i64 ((NM l).yy), .int .i64 ((NM l).yz), .int .i64 ((NM l).xz), .int .i64 ((NM l).yz), .int .i64 ((NM l).zz), .int .i64 ((NM l).p), .int .i64 ((NM l).q), .int .i64 ((NM l).r)], true, 0⟩, some ⟨[.int .i64 (fitF (NM l) 0), .int .i64 (fitF (NM l) 1), .int .i64 (fitF (NM l) 2)], true, 0⟩, some ⟨flatI (A k), true, 1⟩]))) (l.length) (by exact ⟨0, rfl, Nat.zero_le _, .inl ⟨rfl, rfl, rfl⟩⟩) ?_); (rintro n t' m ⟨k, rfl, hk, (⟨rfl, rfl, rfl⟩ | ⟨hk0, rfl, rfl⟩)⟩))
      | refine AW.block ?_
      | (refine AW.draw (id := 4) 7 #[0, 1, 0, 7, 0, 31, 63] (by kernel_rfl) (by kernel_rfl) ?_; (conv => (arg 8; simp only [List.take_succ_cons, List.take_zero])))
      | (refine AW.drawF (id := 9) 13 #[0, 0, 2, 0, 14, 30, 0, 126, 0, 0, 768, 2046, 4094, 8191, 16383] (by kernel_rfl) (by kernel_rfl) ?_; (conv => (arg 8; simp only [List.take_succ_cons, List.take_zero])))
      | (refine AW.region (id := 3) ?_; exfalso; omega; done)
      | (refine AW.region (id := 7) ?_; ((have hlk := hle k hk)))
      | (refine AW.region (id := 8) ?_; (first | (have hb := hbd k (by omega); have hv := (rws_rb hR).at k (by rw [rws_len]; omega)) | (have hb := hbd 0 (by omega); have hv := (rws_rb hR).at 0 (by rw [rws_len]; omega))))
      | (refine AW.region (id := 11) ?_; ((obtain rfl : k = l.length := (by omega); rw [hlk])))
      | refine AW.region ?_
      | (refine AW.conds rfl (fun hc => ?_) (fun hc => ?_) <;> (try simp only [decide_eq_true_eq, decide_eq_false_iff_not, Bool.not_true, Bool.not_false, Bool.not_eq_true', Bool.not_eq_false', Int.not_lt, Int.not_le, Classical.not_not, ne_eq] at hc) <;> first | (exfalso; first | contradiction | (omega); done) | skip))
    | ((with_reducible refine AD.on ?_); first
      | ((first | ((with_reducible refine AD.k_assign ?_); first | (refine AD.q rfl (OQ.assign (by conv => lhs; whnf)) rfl rfl rfl ?_)) | ((with_reducible refine AD.k_load ?_); first | refine AD.q rfl (OQ.loadN (ty := 137) (n := 12) rfl (by kernel_rfl) (by kernel_rfl) (by first | (first | exact hw rfl rfl _ (by omega) | exact hw0 rfl rfl | exact hlv _ (by omega) | exact hlv0) | rfl)) rfl rfl rfl ?_)); (conv => (arg 10; try tactic => exact nrm)))
      | ((first | first | refine AD.pcall (g := 69) rfl (by kernel_rfl) rfl (HT _) rfl rfl ?_ | refine AD.pcall (g := 71) rfl (by kernel_rfl) rfl (HD _) rfl rfl ?_); (conv => (arg 10; try tactic => exact nrm)))
      | ((first | ((with_reducible refine AD.k_alloc ?_); first | refine AD.new (ty := 65) (z := [.int .i64 0, .int .i64 0, .int .i64 0]) rfl rfl rfl (by kernel_rfl) rfl (Nat.lt_of_lt_of_le (Nat.lt_succ_self _) (Nat.le_of_ble_eq_true rfl)) rfl ?_) | ((with_reducible refine AD.k_store ?_); first | (refine AD.init (ty := 65) (p := 0) rfl rfl rfl rfl rfl rfl (by kernel_rfl) (by conv => lhs; whnf) rfl (by kernel_rfl) rfl rfl rfl (by intro r h; cases h) ?_))); (conv => (arg 10; try tactic => exact nrm)); (conv => (arg 9; try dsimp only [Nat.reduceAdd])); (conv => (arg 11; try tactic => exact nrm)))
      | (refine AD.nil ?_; (conv => (arg 4; simp only [List.drop_succ_cons, List.drop_zero, List.drop_nil])); (conv => (arg 5; try tactic => exact nrm)); (conv => (arg 6; try tactic => exact nrm))))
    | ((with_reducible refine AF.on ?_); first
      | ((first | ((with_reducible refine AF.k_move ?_); first | (refine AF.q 0 (SW.q (OQ.move (by conv => lhs; whnf)) rfl) ?_)) | ((with_reducible refine AF.k_load ?_); first | (refine AF.ql rfl (SW.q (OQ.load1 (ty := 109) rfl (by kernel_rfl) (by first | (first | exact hw rfl rfl _ (by omega) | exact hw0 rfl rfl | exact hlv _ (by omega) | exact hlv0) | (conv => lhs; whnf))) rfl) ?_) | (refine AF.ql rfl (SW.q (OQ.load1 (ty := 3) rfl (by kernel_rfl) (by first | (first | exact hw rfl rfl _ (by omega) | exact hw0 rfl rfl | exact hlv _ (by omega) | exact hlv0) | (conv => lhs; whnf))) rfl) ?_) | refine AF.ql rfl (SW.q (OQ.loadN (ty := 65) (n := 3) rfl (by kernel_rfl) (by kernel_rfl) (by first | (first | exact hw rfl rfl _ (by omega) | exact hw0 rfl rfl | exact hlv _ (by omega) | exact hlv0) | rfl)) rfl) ?_) | ((with_reducible refine AF.k_call ?_); first | refine AF.q 2 (SW.pcall (g := 91) rfl (by kernel_rfl) rfl ((by first | exact HM _ (by omega) _ | exact HM 0 (by omega) _)) rfl) ?_) | ((with_reducible refine AF.k_binOp ?_); first | refine AF.q 0 (SW.q (OQ.muli rfl rfl (by omega)) rfl) ?_ | refine AF.q 0 (SW.q (OQ.mul rfl rfl) rfl) ?_ | refine AF.q 0 (SW.q (OQ.subi rfl rfl (by omega)) rfl) ?_ | refine AF.q 0 (SW.q (OQ.sub rfl rfl) rfl) ?_) | ((with_reducible refine AF.k_fieldAddr ?_); first | refine AF.q 0 (SW.q (OQ.fieldA (ty := 134) (i := 1) (n := 1) (off := 1) (g := false) rfl (by kernel_rfl) (by decide)) rfl) ?_) | ((with_reducible refine AF.k_indexAddr ?_); first | refine AF.q 0 (SW.q (OQ.idxAddr (ty := 109) (z := 1) (g := false) rfl rfl (by kernel_rfl) (by omega) (by omega)) rfl) ?_)); (conv => (arg 9; try tactic => exact nrmF)); (conv => (arg 11; try simp only [List.nil_append, List.cons_append])))
      | ((first | first | refine AF.n1 0 (SW.w (OW.buildSl (ty := 109) (zs := [.int .i64 0]) (n := 1) (g := false) (by kernel_rfl) (by kernel_rfl) rfl rfl rfl (by decide) (by decide) rfl rfl) rfl) rfl ?_); (conv => (arg 9; try tactic => exact nrmF)); (conv => (arg 11; try simp only [List.nil_append, List.cons_append])); (conv => (arg 10; try tactic => exact nrmF)))
      | (refine AF.nil ?_ (by kernel_rfl); (conv => (arg 4; simp only [List.drop_succ_cons, List.drop_zero, List.drop_nil]))))
    | ((with_reducible refine ex_on ?_); first | (refine ⟨l.length - (0 + 1), _, _, by omega, ?_, 1, rfl, by omega, .inr ⟨by omega, rfl, rfl⟩⟩; rw [hsu 0 (by omega), hA0]; exact Wk.keep 7 [9] (by rw [hE]; exact (by decide : 1 ≤ 7)) rfl rfl (by repeat (first | exact RenT.nil | refine RenT.junk ?_ | refine RenT.val (by first | rfl | with_reducible assumption | (simp only [rn3, rn2, rn1, kσ]; done)) (by first | rfl | assumption | (simp [ok3, ok2, ok1]; done)) ?_)) ⟨⟨_, rfl, rfl, rfl, .inl ⟨rfl, flatE_scal l⟩⟩, ⟨_, rfl, rfl, rfl, .inr ⟨rfl, rfl⟩⟩, ⟨_, rfl, rfl, rfl, .inl ⟨rfl, flatV_scal _⟩⟩, ⟨_, rfl, rfl, rfl, .inl ⟨rfl, flatI_scal _⟩⟩, ⟨_, rfl, rfl, rfl, .inr ⟨rfl, rfl⟩⟩, ⟨_, rfl, rfl, rfl, .inl ⟨rfl, rfl⟩⟩, ⟨_, rfl, rfl, rfl, .inl ⟨rfl, rfl⟩⟩, ⟨_, rfl, rfl, rfl, .inl ⟨rfl, rfl⟩⟩, trivial⟩) | (refine ⟨l.length - (k + 1), _, _, by omega, ?_, k + 1, rfl, by omega, .inr ⟨by omega, rfl, rfl⟩⟩; rw [hsu k (by omega), List.length_append]; exact Wk.keep 7 [10] (by rw [hE]; exact (by decide : 1 ≤ 7)) rfl rfl (by repeat (first | exact RenT.nil | refine RenT.junk ?_ | refine RenT.val (by first | rfl | with_reducible assumption | (simp only [rn3, rn2, rn1, kσ]; done)) (by first | rfl | assumption | (simp [ok3, ok2, ok1]; done)) ?_)) ⟨⟨_, rfl, rfl, rfl, .inl ⟨rfl, flatE_scal l⟩⟩, ⟨_, rfl, rfl, rfl, .inr ⟨rfl, rfl⟩⟩, ⟨_, rfl, rfl, rfl, .inl ⟨rfl, flatV_scal _⟩⟩, ⟨_, rfl, rfl, rfl, .inl ⟨rfl, flatI_scal _⟩⟩, ⟨_, rfl, rfl, rfl, .inr ⟨rfl, rfl⟩⟩, ⟨_, rfl, rfl, rfl, .inl ⟨rfl, rfl⟩⟩, ⟨_, rfl, rfl, rfl, .inl ⟨rfl, rfl⟩⟩, ⟨_, rfl, rfl, rfl, .inl ⟨flatI_snoc _ _, flatI_scal _⟩⟩, trivial⟩))
    | ((with_reducible refine FinA.on ?_); (refine FinA.keep 1 [] (.inl rfl) (.tmp (by conv => lhs; whnf) (.tmp (by conv => lhs; whnf) .nil)) ?_ rfl (Nat.le_of_eq hE) rfl rfl ⟨⟨_, rfl, rfl, rfl, .inl ⟨rfl, flatE_scal l⟩⟩, trivial⟩; rfl)))
end
end Go.Proofs.Ytnocdnhhlppahaa
