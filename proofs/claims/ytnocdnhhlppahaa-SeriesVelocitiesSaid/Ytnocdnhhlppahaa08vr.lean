/- VelocityRange: the reference's side. -/
import Derived.Test.Ytnocdnhhlppahaa08vp
import Derived.Test.Ytnocdnhhlppahaa08w
import Derived.Test.Ytnocdnhhlppahaa08Y
set_option linter.unusedSimpArgs false
set_option linter.unusedVariables false
namespace Go.Proofs.Ytnocdnhhlppahaa
open Go Go.RowKit Go.Ab Go.Sr
set_option maxRecDepth 100000
set_option maxHeartbeats 4000000
attribute [local irreducible] OQ OW AL AW AD AF SW

section
variable {l : List Ep}
theorem wv_id (n : Nm) (r : Rw) : (n.xy * n.yz - n.xz * n.yy) * r.z + (n.xz * r.y - r.x * n.yz) * n.yz + (r.x * n.yy - n.xy * r.y) * n.zz = wv n r := by
  unfold wv
  rw [show cofF n 0 0 = n.yy * n.zz - n.yz * n.yz from rfl, show cofF n 1 0 = n.yz * n.xz - n.zz * n.xy from rfl, show cofF n 2 0 = n.xy * n.yz - n.xz * n.yy from rfl]
  grind
theorem rVelocity_0 {m : Mem} {b : Nat} {blk : Blk} (nm : ByteArray) (hR : SRight l) (h0 : (NM l).det = 0) (hb : m.at b = some blk) (hc : blk.cells = flatE l) : PCalls Try.prog 43 [srI nm b l.length] m (.tuple #[.agg #[.int .i64 0, .int .i64 0], .int .i64 30]) := by
  refine PCalls.via1 (args0 := [srI nm 0 l.length]) (fun z0 => ?_) hb hc (flatE_scal l) rfl rfl rfl rfl
  have HK := fun (m : Mem) (b : Nat) (blk : Blk) (hb : m.at b = some blk) (hc : blk.cells = flatE l) => RankOf_q nm l hR hb hc rfl
  have hrk := (rk_det l).2 h0
  generalize rkF (rwT l l.length) (rwT l l.length).length = rk at *
  refine PCalls.enter (t := [srI nm 0 l.length, undef, undef, undef, undef, undef, undef, undef, undef, undef, undef, undef, undef, undef, undef, undef, undef, undef, undef, undef, undef, undef, undef, undef, undef, undef, undef, undef, undef, undef, undef, undef, undef, undef, undef, undef, undef, undef, undef, undef, undef, undef, undef, undef, undef, undef, undef, undef, undef, undef, undef, undef, undef, undef, undef, undef, undef, undef, undef, undef, undef, undef, undef, undef, undef, undef, undef, undef, undef, undef, undef, undef, undef, undef, undef, undef, undef, undef, undef, undef, undef, undef, undef, undef, undef, undef, undef, undef, undef]) Try.func43 rfl (ro1 _ rfl) rfl fun E => ?_
  repeat' (first
    | with_reducible refine Then.n ?_
    | with_reducible refine Then.r ?_
    | with_reducible refine Then.x ?_
    | with_reducible refine InB.n ?_
    | with_reducible refine InB.r ?_
    | with_reducible refine InB.hit ?_
    | with_reducible refine InB.miss (by decide) ?_
    | ((with_reducible refine AL.on ?_); first
      | ((first | ((with_reducible refine AL.k_move ?_); first | (refine AL.q rfl (OQ.move (by conv => lhs; whnf)) ?_)) | ((with_reducible refine AL.k_load ?_); first | refine AL.q rfl (OQ.loadN (ty := 24) (n := 2) rfl (by kernel_rfl) (by kernel_rfl) rfl) ?_ | (refine AL.q rfl (OQ.load1 (ty := 22) rfl (by kernel_rfl) (by conv => lhs; whnf)) ?_)) | ((with_reducible refine AL.k_binOp ?_); first | refine AL.q rfl (OQ.lss rfl rfl) ?_ | refine AL.q rfl (OQ.addi rfl rfl (by omega)) ?_ | refine AL.q rfl (OQ.add rfl rfl) ?_) | ((with_reducible refine AL.k_assign ?_); first | (refine AL.q rfl (OQ.assign (by conv => lhs; whnf)) ?_)) | ((with_reducible refine AL.k_call ?_); first | refine AL.q rfl (OQ.lenS (xt := 22) (r := (none, 4, true)) rfl (by kernel_rfl)) ?_) | ((with_reducible refine AL.k_fieldAddr ?_); first | refine AL.q rfl (OQ.fieldA (ty := 24) (i := 1) (n := 1) (off := 1) (g := false) rfl (by kernel_rfl) (by decide)) ?_) | ((with_reducible refine AL.k_extract ?_); first | refine AL.q rfl (OQ.extract rfl rfl) ?_)); (conv => (arg 5; try tactic => exact nrm)))
      | ((first | ((with_reducible refine AL.k_call ?_); first | refine AL.pcall (g := 78) rfl (by kernel_rfl) rfl (HK _ _ _ rfl rfl) ?_) | ((with_reducible refine AL.k_build ?_); first | refine AL.q rfl (OQ.buildS (ty := 44) (zs := [.int .i64 0, .int .i64 0]) (pls := [(0, 1), (1, 1)]) (by kernel_rfl) rfl (by kernel_rfl) rfl rfl rfl) ?_)); (conv => (arg 5; try tactic => exact nrm)))
      | ((first | ((with_reducible refine AL.k_store ?_); first | (refine AL.w rfl (OW.store (ty := 44) (n := 2) rfl (by conv => lhs; whnf) rfl rfl (by kernel_rfl) rfl rfl (by decide) rfl (Nat.le_of_ble_eq_true rfl) (by intro r h; cases h)) ?_) | (refine AL.w rfl (OW.store (ty := 97) (n := 9) rfl (by conv => lhs; whnf) rfl rfl (by kernel_rfl) rfl rfl (by decide) rfl (Nat.le_of_ble_eq_true rfl) (by intro r h; cases h)) ?_) | (refine AL.w rfl (OW.store (ty := 65) (n := 3) rfl (by conv => lhs; whnf) rfl rfl (by kernel_rfl) rfl rfl (by decide) rfl (Nat.le_of_ble_eq_true rfl) (by intro r h; cases h)) ?_)) | ((with_reducible refine AL.k_alloc ?_); first | refine AL.w rfl (OW.alloc (ty := 44) (z := [.int .i64 0, .int .i64 0]) (by kernel_rfl) rfl) ?_ | refine AL.w rfl (OW.alloc (ty := 97) (z := [.int .i64 0, .int .i64 0, .int .i64 0, .int .i64 0, .int .i64 0, .int .i64 0, .int .i64 0, .int .i64 0, .int .i64 0]) (by kernel_rfl) rfl) ?_ | refine AL.w rfl (OW.alloc (ty := 65) (z := [.int .i64 0, .int .i64 0, .int .i64 0]) (by kernel_rfl) rfl) ?_) | ((with_reducible refine AL.k_box ?_); first | (refine AL.w rfl (OW.box (by conv => lhs; whnf) (by intro r h; cases h)) ?_))); (conv => (arg 5; try tactic => exact nrm)); (conv => (arg 6; try tactic => exact nrm)))
      | refine AL.nil ?_)
    | ((with_reducible refine AW.on ?_); first
      | refine AW.seq ?_
      | refine AW.skip ?_
      | refine AW.exit ?_
      | refine AW.ret ?_
      | refine AW.block ?_
      | (refine AW.draw (id := 9) 7 #[0, 0, 0, 6, 15, 31, 63] (by kernel_rfl) (by kernel_rfl) ?_; (conv => (arg 8; simp only [List.take_succ_cons, List.take_zero])))
      | (refine AW.draw (id := 10) 21 #[0, 0, 0, 4, 0, 28, 60, 124, 254, 511, 0, 1024, 0, 4096, 0, 28672, 61440, 126976, 261120, 524287, 1048575] (by kernel_rfl) (by kernel_rfl) ?_; (conv => (arg 8; simp only [List.take_succ_cons, List.take_zero])))
      | (refine AW.draw (id := 11) 21 #[0, 0, 0, 4, 0, 28, 60, 124, 254, 511, 0, 1024, 0, 4096, 0, 28672, 61440, 126976, 261120, 524287, 1048575] (by kernel_rfl) (by kernel_rfl) ?_; (conv => (arg 8; simp only [List.take_succ_cons, List.take_zero])))
      | (refine AW.draw (id := 12) 11 #[0, 1, 0, 4, 15, 0, 32, 0, 159, 511, 1023, 2047, 4095] (by kernel_rfl) (by kernel_rfl) ?_; (conv => (arg 8; simp only [List.take_succ_cons, List.take_zero])))
      | (refine AW.region (id := 4) ?_; exfalso; omega; done)
      | refine AW.region ?_
      | (refine AW.conds rfl (fun hc => ?_) (fun hc => ?_) <;> (try simp only [decide_eq_true_eq, decide_eq_false_iff_not, Bool.not_true, Bool.not_false, Bool.not_eq_true', Bool.not_eq_false', Int.not_lt, Int.not_le, Classical.not_not, ne_eq] at hc) <;> first | (exfalso; first | contradiction | (omega); done) | skip))
    | ((with_reducible refine AD.on ?_); first
      | ((first | ((with_reducible refine AD.k_move ?_); first | (refine AD.q rfl (OQ.move (by conv => lhs; whnf)) rfl rfl rfl ?_)) | ((with_reducible refine AD.k_load ?_); first | refine AD.q rfl (OQ.loadN (ty := 97) (n := 9) rfl (by kernel_rfl) (by kernel_rfl) rfl) rfl rfl rfl ?_ | refine AD.q rfl (OQ.loadN (ty := 24) (n := 2) rfl (by kernel_rfl) (by kernel_rfl) rfl) rfl rfl rfl ?_ | (refine AD.q rfl (OQ.load1 (ty := 22) rfl (by kernel_rfl) (by conv => lhs; whnf)) rfl rfl rfl ?_) | (refine AD.q rfl (OQ.load1 (ty := 3) rfl (by kernel_rfl) (by conv => lhs; whnf)) rfl rfl rfl ?_)) | ((with_reducible refine AD.k_binOp ?_); first | refine AD.q rfl (OQ.muli rfl rfl (by omega)) rfl rfl rfl ?_ | refine AD.q rfl (OQ.mul rfl rfl) rfl rfl rfl ?_ | refine AD.q rfl (OQ.addi rfl rfl (by omega)) rfl rfl rfl ?_ | refine AD.q rfl (OQ.add rfl rfl) rfl rfl rfl ?_ | refine AD.q rfl (OQ.subi rfl rfl (by omega)) rfl rfl rfl ?_ | refine AD.q rfl (OQ.sub rfl rfl) rfl rfl rfl ?_) | ((with_reducible refine AD.k_assign ?_); first | (refine AD.q rfl (OQ.assign (by conv => lhs; whnf)) rfl rfl rfl ?_)) | ((with_reducible refine AD.k_fieldAddr ?_); first | refine AD.q rfl (OQ.fieldA (ty := 24) (i := 1) (n := 1) (off := 1) (g := false) rfl (by kernel_rfl) (by decide)) rfl rfl rfl ?_ | refine AD.q rfl (OQ.fieldA (ty := 85) (i := 2) (n := 1) (off := 2) (g := false) rfl (by kernel_rfl) (by decide)) rfl rfl rfl ?_ | refine AD.q rfl (OQ.fieldA (ty := 85) (i := 3) (n := 1) (off := 3) (g := false) rfl (by kernel_rfl) (by decide)) rfl rfl rfl ?_) | ((with_reducible refine AD.k_indexAddr ?_); first | refine AD.q rfl (OQ.idxAddr (ty := 22) (z := 4) (g := true) rfl rfl (by kernel_rfl) (by omega) (by omega)) rfl rfl rfl ?_)); (conv => (arg 10; try tactic => exact nrm)))
      | ((first | first | refine AD.q rfl (OQ.buildS (ty := 44) (zs := [.int .i64 0, .int .i64 0]) (pls := [(0, 1), (1, 1)]) (by kernel_rfl) rfl (by kernel_rfl) rfl rfl rfl) rfl rfl rfl ?_); (conv => (arg 10; try tactic => exact nrm)))
      | (refine AD.nil ?_; (conv => (arg 4; simp only [List.drop_succ_cons, List.drop_zero, List.drop_nil])); (conv => (arg 5; try tactic => exact nrm)); (conv => (arg 6; try tactic => exact nrm))))
    | ((with_reducible refine FinP.on ?_); (first | refine FinP.ret (.cellN (n := 2) (by conv => lhs; whnf) (by kernel_rfl) (by kernel_rfl) rfl (.tmp (by conv => lhs; whnf) .nil)) ?_ rfl | refine FinP.end (.cellN (n := 2) (by conv => lhs; whnf) (by kernel_rfl) (by kernel_rfl) rfl (.tmp (by conv => lhs; whnf) .nil)) ?_ rfl); (try simp only [pack, List.drop, List.take]); all_goals (rfl)))
theorem wvd_q (hR : SRight l) (k : Nat) (hk : k < l.length) (m : Mem) : PCalls Try.prog 97 [.agg #[.int .i64 (rw_ (rws l) k).x, .int .i64 (NM l).xy, .int .i64 (NM l).xz, .int .i64 (rw_ (rws l) k).y, .int .i64 (NM l).yy, .int .i64 (NM l).yz, .int .i64 (rw_ (rws l) k).z, .int .i64 (NM l).yz, .int .i64 (NM l).zz]] m (.int .i64 (wv (NM l) (rw_ (rws l) k))) := by
  have hb := (rws_rb hR).at k (by rw [rws_len]; exact hk)
  have hS := rws_sb' hR
  have h1 := mulc 1600000000 hS.xy hS.yz (by decide)
  have h2 := mulc 1600000000 hS.xz hS.yy (by decide)
  have h3 := mulc (A := 8000) (B := 100) 800000 hS.xz hb.2.1 (by decide)
  have h4 := mulc (A := 400) (B := 2000) 800000 hb.1 hS.yz (by decide)
  have h5 := mulc (A := 400) (B := 200000) 80000000 hb.1 hS.yy (by decide)
  have h6 := mulc (A := 800000) (B := 100) 80000000 hS.xy hb.2.1 (by decide)
  have k1 := mulc (A := 3200000000) (B := 1) 3200000000 (a := (NM l).xy * (NM l).yz - (NM l).xz * (NM l).yy) (b := (rw_ (rws l) k).z) (by omega) (by omega) (by decide)
  have k2 := mulc (A := 1600000) (B := 2000) 3200000000 (a := (NM l).xz * (rw_ (rws l) k).y - (rw_ (rws l) k).x * (NM l).yz) (by omega) hS.yz (by decide)
  have k3 := mulc (A := 160000000) (B := 20) 3200000000 (a := (rw_ (rws l) k).x * (NM l).yy - (NM l).xy * (rw_ (rws l) k).y) (by omega) hS.zz (by decide)
  have := rdet_q (rw_ (rws l) k).x (NM l).xy (NM l).xz (rw_ (rws l) k).y (NM l).yy (NM l).yz (rw_ (rws l) k).z (NM l).yz (NM l).zz (by omega) (by omega) (by omega) (by omega) (by omega) (by omega) (by omega) (by omega) (by omega) m
  rwa [wv_id] at this
theorem ndet_q (hR : SRight l) (m : Mem) : PCalls Try.prog 97 [nmA (NM l)] m (.int .i64 (NM l).det) := by
  have hS := rws_sb' hR
  have h1 := mulc 1600000000 hS.xy hS.yz (by decide)
  have h2 := mulc 1600000000 hS.xz hS.yy (by decide)
  have h3 := mulc 6400000000 hS.xz hS.xy (by decide)
  have h4 := mulc 6400000000 hS.xx hS.yz (by decide)
  have h5 := mulc 640000000000 hS.xx hS.yy (by decide)
  have h6 := mulc 640000000000 hS.xy hS.xy (by decide)
  have k1 := mulc (A := 3200000000) (B := 8000) 25600000000000 (a := (NM l).xy * (NM l).yz - (NM l).xz * (NM l).yy) (by omega) hS.xz (by decide)
  have k2 := mulc (A := 12800000000) (B := 2000) 25600000000000 (a := (NM l).xz * (NM l).xy - (NM l).xx * (NM l).yz) (by omega) hS.yz (by decide)
  have k3 := mulc (A := 1280000000000) (B := 20) 25600000000000 (a := (NM l).xx * (NM l).yy - (NM l).xy * (NM l).xy) (by omega) hS.zz (by decide)
  have := rdet_q (NM l).xx (NM l).xy (NM l).xz (NM l).xy (NM l).yy (NM l).yz (NM l).xz (NM l).yz (NM l).zz (by omega) (by omega) (by omega) (by omega) (by omega) (by omega) (by omega) (by omega) (by omega) m
  rwa [fit_id3] at this
theorem rVelocity_c (nm : ByteArray) (hR : SRight l) (h0 : (NM l).det ≠ 0) (z0 : Nat) : PCalls Try.prog 43 [srI nm 0 l.length] [some ⟨flatE l, false, z0⟩]
    (.tuple #[.agg #[.int .i64 (1000 * vlo (NM l) (rws l) l l.length / (NM l).det), .int .i64 (-(-(1000 * vhi (NM l) (rws l) l l.length) / (NM l).det))], .int .i64 0]) := by
  have hn1 := hR.n1
  have hn2 := hR.n20
  have HK := fun (m : Mem) (b : Nat) (blk : Blk) (hb : m.at b = some blk) (hc : blk.cells = flatE l) => RankOf_q nm l hR hb hc rfl
  have HN := fun (m : Mem) (b : Nat) (blk : Blk) (hb : m.at b = some blk) (hc : blk.cells = flatE l) => NormalOf_q nm l hR hb hc rfl
  have HW := fun (m : Mem) (b : Nat) (blk : Blk) (hb : m.at b = some blk) (hc : blk.cells = flatE l) (k : Nat) (hk : k < l.length) => row_q nm l hR hb hc rfl k hk
  have hrk : ¬ rkF (rwT l l.length) (rwT l l.length).length < 3 := fun h => h0 ((rk_det l).1 h)
  generalize rkF (rwT l l.length) (rwT l l.length).length = rk at *
  have HD := ndet_q hR
  have HV := wvd_q hR
  have HPt := fun (k : Nat) (m : Mem) => put0_q (NM l).xx (NM l).xy (NM l).xz (NM l).xy (NM l).yy (NM l).yz (NM l).xz (NM l).yz (NM l).zz (rw_ (rws l) k).x (rw_ (rws l) k).y (rw_ (rws l) k).z m
  have e2 : ∀ k : Nat, k < l.length → (flatE l)[k * 4 + 2]? = some (.int .i64 (rw_ (rws l) k).v) := fun k hk => by rw [rw_rws l k hk]; exact flatE_get l k 2 (by decide) hk
  have e3 : ∀ k : Nat, k < l.length → (flatE l)[k * 4 + 3]? = some (.int .i64 (ep l k).m) := fun k hk => flatE_get l k 3 (by decide) hk
  have hbd : ∀ k, k < l.length → _ := fun k hk => wv_bd (m := (ep l k).m) (rws_sb' hR) ((rws_rb hR).at k (by rw [rws_len]; exact hk)) (hR.bd k hk).2.2.2.1
  have hvl := vl_bd (N := NM l) (R := rws l) (l := l) fun k hk => ⟨(hbd k hk).2.2.2.2.1, (hbd k hk).2.2.2.2.2⟩
  have hlo : ∀ k, vlo (NM l) (rws l) l (k + 1) = vlo (NM l) (rws l) l k + wv (NM l) (rw_ (rws l) k) * (rw_ (rws l) k).v - (wv (NM l) (rw_ (rws l) k)).natAbs * (ep l k).m := fun k => rfl
  have hhi : ∀ k, vhi (NM l) (rws l) l (k + 1) = vhi (NM l) (rws l) l k + wv (NM l) (rw_ (rws l) k) * (rw_ (rws l) k).v + (wv (NM l) (rw_ (rws l) k)).natAbs * (ep l k).m := fun k => rfl
  have hl0 : vlo (NM l) (rws l) l 0 = 0 := rfl
  have hh0 : vhi (NM l) (rws l) l 0 = 0 := rfl
  have hdp := det_pos h0
  have HFl := fun (m : Mem) => rFloor_q (1000 * vlo (NM l) (rws l) l l.length) (NM l).det hdp (by have := hvl _ (Nat.le_refl _); omega) m
  have HCe := fun (m : Mem) => rCeil_q (1000 * vhi (NM l) (rws l) l l.length) (NM l).det hdp (by have := hvl _ (Nat.le_refl _); omega) m
  have HS := fun (k : Nat) (hk : k < l.length) (m : Mem) => Size_q (wv (NM l) (rw_ (rws l) k)) (by have := hbd k hk; omega) m
  generalize vlo (NM l) (rws l) l = A at *
  generalize vhi (NM l) (rws l) l = C at *
  generalize hwd : (fun k => wv (NM l) (rw_ (rws l) k)) = W at *
  have hWk : ∀ k, wv (NM l) (rw_ (rws l) k) = W k := fun k => by rw [← hwd]
  simp only [hWk] at hbd HV HS hlo hhi
  clear hwd hWk
  refine PCalls.enter (t := [srI nm 0 l.length, undef, undef, undef, undef, undef, undef, undef, undef, undef, undef, undef, undef, undef, undef, undef, undef, undef, undef, undef, undef, undef, undef, undef, undef, undef, undef, undef, undef, undef, undef, undef, undef, undef, undef, undef, undef, undef, undef, undef, undef, undef, undef, undef, undef, undef, undef, undef, undef, undef, undef, undef, undef, undef, undef, undef, undef, undef, undef, undef, undef, undef, undef, undef, undef, undef, undef, undef, undef, undef, undef, undef, undef, undef, undef, undef, undef, undef, undef, undef, undef, undef, undef, undef, undef, undef, undef, undef, undef]) Try.func43 rfl (ro1 _ rfl) rfl fun E => ?_
  repeat' (first
    | with_reducible refine Then.n ?_
    | with_reducible refine Then.r ?_
    | with_reducible refine Then.x ?_
    | with_reducible refine InB.n ?_
    | with_reducible refine InB.r ?_
    | with_reducible refine InB.hit ?_
    | with_reducible refine InB.miss (by decide) ?_
    | ((with_reducible refine AL.on ?_); first
      | ((first | ((with_reducible refine AL.k_move ?_); first | (refine AL.q rfl (OQ.move (by conv => lhs; whnf)) ?_)) | ((with_reducible refine AL.k_load ?_); first | refine AL.q rfl (OQ.loadN (ty := 24) (n := 2) rfl (by kernel_rfl) (by kernel_rfl) (by first | (first | exact e2 _ (by omega) | exact e3 _ (by omega)) | rfl)) ?_ | (refine AL.q rfl (OQ.load1 (ty := 22) rfl (by kernel_rfl) (by first | (first | exact e2 _ (by omega) | exact e3 _ (by omega)) | (conv => lhs; whnf))) ?_)) | ((with_reducible refine AL.k_binOp ?_); first | refine AL.q rfl (OQ.lss rfl rfl) ?_ | refine AL.q rfl (OQ.addi rfl rfl (by omega)) ?_ | refine AL.q rfl (OQ.add rfl rfl) ?_) | ((with_reducible refine AL.k_assign ?_); first | (refine AL.q rfl (OQ.assign (by conv => lhs; whnf)) ?_)) | ((with_reducible refine AL.k_call ?_); first | refine AL.q rfl (OQ.lenS (xt := 22) (r := (none, 4, true)) rfl (by kernel_rfl)) ?_) | ((with_reducible refine AL.k_extract ?_); first | refine AL.q rfl (OQ.extract rfl rfl) ?_)); (conv => (arg 5; try tactic => exact nrm)))
      | ((first | ((with_reducible refine AL.k_call ?_); first | refine AL.pcall (g := 78) rfl (by kernel_rfl) rfl (HK _ _ _ rfl rfl) ?_ | refine AL.pcall (g := 50) rfl (by kernel_rfl) rfl (HN _ _ _ rfl rfl) ?_) | ((with_reducible refine AL.k_fieldAddr ?_); first | refine AL.q rfl (OQ.fieldA (ty := 24) (i := 1) (n := 1) (off := 1) (g := false) rfl (by kernel_rfl) (by decide)) ?_) | ((with_reducible refine AL.k_build ?_); first | refine AL.q rfl (OQ.buildS (ty := 44) (zs := [.int .i64 0, .int .i64 0]) (pls := [(0, 1), (1, 1)]) (by kernel_rfl) rfl (by kernel_rfl) rfl rfl rfl) ?_)); (conv => (arg 5; try tactic => exact nrm)))
      | ((first | ((with_reducible refine AL.k_store ?_); first | (refine AL.w rfl (OW.store (ty := 44) (n := 2) rfl (by conv => lhs; whnf) rfl rfl (by kernel_rfl) rfl rfl (by decide) rfl (Nat.le_of_ble_eq_true rfl) (by intro r h; cases h)) ?_) | (refine AL.w rfl (OW.store (ty := 97) (n := 9) rfl (by conv => lhs; whnf) rfl rfl (by kernel_rfl) rfl rfl (by decide) rfl (Nat.le_of_ble_eq_true rfl) (by intro r h; cases h)) ?_) | (refine AL.w rfl (OW.store (ty := 65) (n := 3) rfl (by conv => lhs; whnf) rfl rfl (by kernel_rfl) rfl rfl (by decide) rfl (Nat.le_of_ble_eq_true rfl) (by intro r h; cases h)) ?_)) | ((with_reducible refine AL.k_alloc ?_); first | refine AL.w rfl (OW.alloc (ty := 44) (z := [.int .i64 0, .int .i64 0]) (by kernel_rfl) rfl) ?_ | refine AL.w rfl (OW.alloc (ty := 97) (z := [.int .i64 0, .int .i64 0, .int .i64 0, .int .i64 0, .int .i64 0, .int .i64 0, .int .i64 0, .int .i64 0, .int .i64 0]) (by kernel_rfl) rfl) ?_ | refine AL.w rfl (OW.alloc (ty := 65) (z := [.int .i64 0, .int .i64 0, .int .i64 0]) (by kernel_rfl) rfl) ?_) | ((with_reducible refine AL.k_box ?_); first | (refine AL.w rfl (OW.box (by conv => lhs; whnf) (by intro r h; cases h)) ?_))); (conv => (arg 5; try tactic => exact nrm)); (conv => (arg 6; try tactic => exact nrm)))
      | refine AL.nil ?_)
    | ((with_reducible refine AW.on ?_); first
      | refine AW.seq ?_
      | refine AW.skip ?_
      | refine AW.exit ?_
      | refine AW.ret ?_
      | ((refine AW.block (id := 0) ?_); (refine AW.wk (Wk.forget [false, true, true, false, false, false, true, false, true, true, true, false, false, false, false, false, false, false, false, false, false, false, false, false, false, false, false, false, false, false, false, false, false, false, false, false, false, false, false, false, false, false, false, false, false, false, false, false, false, false, false, false, false, false, false, false, false, false, false, false, false, false, false, false, false, false, false, false, false, false, false, false, false, false, false, false, false, false, false, false, false, false, false, false, false, false, false, false, false] rfl) ?_); (conv => (arg 4; simp only [fgt, if_true, if_false, Bool.false_eq_true])); (refine AW.loop (fun n t' m => ∃ k : Nat, n = l.length - k ∧ k ≤ l.length ∧ t' = [junk, .pointer (some ⟨1, 0, none⟩), .pointer (some ⟨2, 0, none⟩), junk, junk, junk, .pointer (some ⟨3, 0, none⟩), junk, .int .i64 (A k), .int .i64 (C k), .int .i64 (k), junk, junk, junk, junk, junk, junk, junk, junk, junk, junk, junk, junk, junk, junk, junk, junk, junk, junk, junk, junk, junk, junk, junk, junk, junk, junk, junk, junk, junk, junk, junk, junk, junk, junk, junk, junk, junk, junk, junk, junk, junk, junk, junk, junk, junk, junk, junk, junk, junk, junk, junk, junk, junk, junk, junk, junk, junk, junk, junk, junk, junk, junk, junk, junk, junk, junk, junk, junk, junk, junk, junk, junk, junk, junk, junk, junk, junk, junk] ∧ m = [some ⟨flatE l, false, z0⟩, some ⟨[.string nm, .slice (some ⟨0, 0, none⟩) (l.length) INF], true, 0⟩, some ⟨[.int .i64 (0), .int .i64 (0)], true, 0⟩, some ⟨[.int .i64 ((NM l).xx), .int .i64 ((NM l).xy), .int .i64 ((NM l).xz), .int .i64 ((NM l).xy), .int .i64 ((NM l).yy), .int .i64 ((NM l).yz), .int .i64 ((NM l).xz), .int .i64 ((NM l).yz), .int .i64 ((NM l).zz)], true, 0⟩, some ⟨[.int .i64 ((NM l).p), .int .i64 ((NM l).q), .int .i64 ((NM l).r)], true, 0⟩]) (l.length) (by exact ⟨0, rfl, Nat.zero_le _, by rw [hl0, hh0]; rfl, rfl⟩) ?_); (rintro n t' m ⟨k, rfl, hk, rfl, rfl⟩))
      | refine AW.block ?_
      | (refine AW.draw (id := 9) 7 #[0, 0, 0, 6, 15, 31, 63] (by kernel_rfl) (by kernel_rfl) ?_; (conv => (arg 8; simp only [List.take_succ_cons, List.take_zero])); ((have hb := hbd k (by omega); have hb2 := hvl k hk)))
      | (refine AW.draw (id := 10) 21 #[0, 0, 0, 4, 0, 28, 60, 124, 254, 511, 0, 1024, 0, 4096, 0, 28672, 61440, 126976, 261120, 524287, 1048575] (by kernel_rfl) (by kernel_rfl) ?_; (conv => (arg 8; simp only [List.take_succ_cons, List.take_zero])))
      | (refine AW.draw (id := 11) 21 #[0, 0, 0, 4, 0, 28, 60, 124, 254, 511, 0, 1024, 0, 4096, 0, 28672, 61440, 126976, 261120, 524287, 1048575] (by kernel_rfl) (by kernel_rfl) ?_; (conv => (arg 8; simp only [List.take_succ_cons, List.take_zero])))
      | (refine AW.draw (id := 12) 11 #[0, 1, 0, 4, 15, 0, 32, 0, 159, 511, 1023, 2047, 4095] (by kernel_rfl) (by kernel_rfl) ?_; (conv => (arg 8; simp only [List.take_succ_cons, List.take_zero])); ((obtain rfl : k = l.length := (by omega); have hb2 := hvl _ hk)))
      | (refine AW.region (id := 3) ?_; exfalso; omega; done)
      | refine AW.region ?_
      | (refine AW.conds rfl (fun hc => ?_) (fun hc => ?_) <;> (try simp only [decide_eq_true_eq, decide_eq_false_iff_not, Bool.not_true, Bool.not_false, Bool.not_eq_true', Bool.not_eq_false', Int.not_lt, Int.not_le, Classical.not_not, ne_eq] at hc) <;> first | (exfalso; first | contradiction | (omega); done) | skip))
    | ((with_reducible refine AD.on ?_); first
      | ((first | ((with_reducible refine AD.k_move ?_); first | (refine AD.q rfl (OQ.move (by conv => lhs; whnf)) rfl rfl rfl ?_)) | ((with_reducible refine AD.k_load ?_); first | refine AD.q rfl (OQ.loadN (ty := 97) (n := 9) rfl (by kernel_rfl) (by kernel_rfl) (by first | (first | exact e2 _ (by omega) | exact e3 _ (by omega)) | rfl)) rfl rfl rfl ?_ | refine AD.q rfl (OQ.loadN (ty := 24) (n := 2) rfl (by kernel_rfl) (by kernel_rfl) (by first | (first | exact e2 _ (by omega) | exact e3 _ (by omega)) | rfl)) rfl rfl rfl ?_ | (refine AD.q rfl (OQ.load1 (ty := 22) rfl (by kernel_rfl) (by first | (first | exact e2 _ (by omega) | exact e3 _ (by omega)) | (conv => lhs; whnf))) rfl rfl rfl ?_) | (refine AD.q rfl (OQ.load1 (ty := 3) rfl (by kernel_rfl) (by first | (first | exact e2 _ (by omega) | exact e3 _ (by omega)) | (conv => lhs; whnf))) rfl rfl rfl ?_)) | ((with_reducible refine AD.k_binOp ?_); first | refine AD.q rfl (OQ.muli rfl rfl (by omega)) rfl rfl rfl ?_ | refine AD.q rfl (OQ.mul rfl rfl) rfl rfl rfl ?_ | refine AD.q rfl (OQ.addi rfl rfl (by omega)) rfl rfl rfl ?_ | refine AD.q rfl (OQ.add rfl rfl) rfl rfl rfl ?_ | refine AD.q rfl (OQ.subi rfl rfl (by omega)) rfl rfl rfl ?_ | refine AD.q rfl (OQ.sub rfl rfl) rfl rfl rfl ?_) | ((with_reducible refine AD.k_assign ?_); first | (refine AD.q rfl (OQ.assign (by conv => lhs; whnf)) rfl rfl rfl ?_))); (conv => (arg 10; try tactic => exact nrm)))
      | ((first | ((with_reducible refine AD.k_call ?_); first | refine AD.pcall (g := 80) rfl (by kernel_rfl) rfl (HW _ _ _ rfl rfl _ (by omega)) rfl rfl ?_ | refine AD.pcall (g := 98) rfl (by kernel_rfl) rfl (HPt _ _) rfl rfl ?_ | refine AD.pcall (g := 97) rfl (by kernel_rfl) rfl ((by first | exact HV _ (by omega) _ | exact HD _)) rfl rfl ?_ | refine AD.pcall (g := 65) rfl (by kernel_rfl) rfl (HS _ (by omega) _) rfl rfl ?_ | refine AD.pcall (g := 25) rfl (by kernel_rfl) rfl (HFl _) rfl rfl ?_ | refine AD.pcall (g := 26) rfl (by kernel_rfl) rfl (HCe _) rfl rfl ?_) | ((with_reducible refine AD.k_fieldAddr ?_); first | refine AD.q rfl (OQ.fieldA (ty := 24) (i := 1) (n := 1) (off := 1) (g := false) rfl (by kernel_rfl) (by decide)) rfl rfl rfl ?_ | refine AD.q rfl (OQ.fieldA (ty := 85) (i := 2) (n := 1) (off := 2) (g := false) rfl (by kernel_rfl) (by decide)) rfl rfl rfl ?_ | refine AD.q rfl (OQ.fieldA (ty := 85) (i := 3) (n := 1) (off := 3) (g := false) rfl (by kernel_rfl) (by decide)) rfl rfl rfl ?_) | ((with_reducible refine AD.k_indexAddr ?_); first | refine AD.q rfl (OQ.idxAddr (ty := 22) (z := 4) (g := true) rfl rfl (by kernel_rfl) (by omega) (by omega)) rfl rfl rfl ?_) | ((with_reducible refine AD.k_build ?_); first | refine AD.q rfl (OQ.buildS (ty := 44) (zs := [.int .i64 0, .int .i64 0]) (pls := [(0, 1), (1, 1)]) (by kernel_rfl) rfl (by kernel_rfl) rfl rfl rfl) rfl rfl rfl ?_)); (conv => (arg 10; try tactic => exact nrm)))
      | (refine AD.nil ?_; (conv => (arg 4; simp only [List.drop_succ_cons, List.drop_zero, List.drop_nil])); (conv => (arg 5; try tactic => exact nrm)); (conv => (arg 6; try tactic => exact nrm))))
    | ((with_reducible refine ex_on ?_); (refine ⟨_, _, _, ?_, ?_, k + 1, rfl, (by omega), rfl, rfl⟩; omega; rw [hlo k, hhi k]; exact Wk.forget [false, true, true, false, false, false, true, false, true, true, true, false, false, false, false, false, false, false, false, false, false, false, false, false, false, false, false, false, false, false, false, false, false, false, false, false, false, false, false, false, false, false, false, false, false, false, false, false, false, false, false, false, false, false, false, false, false, false, false, false, false, false, false, false, false, false, false, false, false, false, false, false, false, false, false, false, false, false, false, false, false, false, false, false, false, false, false, false, false] rfl))
    | ((with_reducible refine FinP.on ?_); (first | refine FinP.ret (.cellN (n := 2) (by conv => lhs; whnf) (by kernel_rfl) (by kernel_rfl) rfl (.tmp (by conv => lhs; whnf) .nil)) ?_ rfl | refine FinP.end (.cellN (n := 2) (by conv => lhs; whnf) (by kernel_rfl) (by kernel_rfl) rfl (.tmp (by conv => lhs; whnf) .nil)) ?_ rfl); (try simp only [pack, List.drop, List.take]); all_goals (rfl)))
end
end Go.Proofs.Ytnocdnhhlppahaa
