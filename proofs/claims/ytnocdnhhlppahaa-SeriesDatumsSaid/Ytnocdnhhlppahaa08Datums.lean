/- SeriesDatums: Datum returns the series with another datum, or the errors; velocity and height stay, and the constant is less by its phase. -/
import Derived.Test.Ytnocdnhhlppahaa08H
import Derived.Test.Ytnocdnhhlppahaa08dt
set_option linter.unusedSimpArgs false
set_option linter.unusedVariables false
section
namespace Go.Sr
/-- A row whose value is less by a constant. -/
def Rw.sh (c : Int) (r : Rw) : Rw := ⟨r.x, r.y, r.z, r.v - c * r.z⟩
theorem sm_sub (f g : Rw → Int) (c : Int) : ∀ R : List Rw, sm (fun r => f r - c * g r) R = sm f R - c * sm g R
  | [] => by simp [sm]
  | r :: R => by
    have := sm_sub f g c R
    unfold sm at *
    simp only [List.map_cons, List.sum_cons, this]
    rw [Int.mul_add]
    omega
theorem sm_map (f : Rw → Int) (c : Int) (R : List Rw) : sm f (R.map (Rw.sh c)) = sm (fun r => f (r.sh c)) R := by unfold sm; rw [List.map_map]; rfl
theorem nm_sh (c : Int) (R : List Rw) : nm (R.map (Rw.sh c)) = ⟨(nm R).xx, (nm R).xy, (nm R).xz, (nm R).yy, (nm R).yz, (nm R).zz, (nm R).p - c * (nm R).xz, (nm R).q - c * (nm R).yz, (nm R).r - c * (nm R).zz⟩ := by
  unfold nm
  simp only [sm_map]
  have h1 := sm_sub (fun r => r.x * r.v) (fun r => r.x * r.z) c R
  have h2 := sm_sub (fun r => r.y * r.v) (fun r => r.y * r.z) c R
  have h3 := sm_sub (fun r => r.z * r.v) (fun r => r.z * r.z) c R
  rw [← h1, ← h2, ← h3]
  have e1 : ∀ r : Rw, (r.sh c).x * (r.sh c).v = r.x * r.v - c * (r.x * r.z) := fun r => by simp only [Rw.sh]; grind
  have e2 : ∀ r : Rw, (r.sh c).y * (r.sh c).v = r.y * r.v - c * (r.y * r.z) := fun r => by simp only [Rw.sh]; grind
  have e3 : ∀ r : Rw, (r.sh c).z * (r.sh c).v = r.z * r.v - c * (r.z * r.z) := fun r => by simp only [Rw.sh]; grind
  simp only [e1, e2, e3]
  rfl
/-- The fit of rows whose values are less by a constant. -/
theorem fit_sh (c : Int) (R : List Rw) : (nm (R.map (Rw.sh c))).det = (nm R).det ∧ fitF (nm (R.map (Rw.sh c))) 0 = fitF (nm R) 0 ∧ fitF (nm (R.map (Rw.sh c))) 1 = fitF (nm R) 1 ∧ fitF (nm (R.map (Rw.sh c))) 2 = fitF (nm R) 2 - c * (nm R).det := by
  rw [nm_sh]
  generalize nm R = n
  obtain ⟨xx, xy, xz, yy, yz, zz, p, q, r⟩ := n
  refine ⟨rfl, ?_, ?_, ?_⟩
  · show (yy * zz - yz * yz) * (p - c * xz) + (yz * xz - zz * xy) * (q - c * yz) + (xy * yz - xz * yy) * (r - c * zz) = (yy * zz - yz * yz) * p + (yz * xz - zz * xy) * q + (xy * yz - xz * yy) * r
    grind
  · show (yz * xz - xy * zz) * (p - c * xz) + (zz * xx - xz * xz) * (q - c * yz) + (xz * xy - xx * yz) * (r - c * zz) = (yz * xz - xy * zz) * p + (zz * xx - xz * xz) * q + (xz * xy - xx * yz) * r
    grind
  · show (xy * yz - yy * xz) * (p - c * xz) + (xz * xy - yz * xx) * (q - c * yz) + (xx * yy - xy * xy) * (r - c * zz) = (xy * yz - yy * xz) * p + (xz * xy - yz * xx) * q + (xx * yy - xy * xy) * r - c * (xx * (yy * zz - yz * yz) - xy * (xy * zz - yz * xz) + xz * (xy * yz - yy * xz))
    grind
end Go.Sr
namespace Go.Proofs.Ytnocdnhhlppahaa
open Go.Sr
theorem rws_dt (l : List Ep) (e : Nat) (h1 : 1 ≤ l.length) : rws (dtL l e l.length) = (rws l).map (Rw.sh (ep l e).p) := by
  have h0 := dtL_ep l e l.length 0 (by omega)
  rw [if_pos (by omega)] at h0
  unfold rws
  rw [h0]
  refine List.ext_getElem? fun i => ?_
  rw [List.getElem?_map, List.getElem?_map, List.getElem?_map]
  by_cases h : i < l.length
  · have hi := dtL_ep l e l.length i h
    rw [if_pos h] at hi
    unfold ep at hi
    rw [List.getD_eq_getElem?_getD, List.getElem?_eq_getElem (by rw [dtL_len]; exact h), Option.getD_some] at hi
    rw [List.getElem?_eq_getElem (by rw [dtL_len]; exact h), hi, List.getElem?_eq_getElem h]
    simp [dtE, Rw.sh, ep, List.getD_eq_getElem?_getD, h]
  · rw [List.getElem?_eq_none (by rw [dtL_len]; omega), List.getElem?_eq_none (by omega)]
    rfl
theorem fit_dt (l : List Ep) (e : Nat) (h1 : 1 ≤ l.length) : (NM (dtL l e l.length)).det = (NM l).det ∧ fitF (NM (dtL l e l.length)) 0 = fitF (NM l) 0 ∧ fitF (NM (dtL l e l.length)) 1 = fitF (NM l) 1 ∧ fitF (NM (dtL l e l.length)) 2 = fitF (NM l) 2 - (ep l e).p * (NM l).det := by
  unfold NM
  rw [rws_dt l e h1]
  exact fit_sh _ _
theorem fr_comp0 {P D v : Int} (h : D ≠ 0) : frD (v * D - P) D = frD P D ∧ frN P D + frN (v * D - P) D = v * frD P D := by
  have e : frG (v * D - P) D = frG P D := by
    have : Int.gcd (v * D - P) D = Int.gcd P D := by
      rw [show v * D - P = -P + v * D by omega, Int.gcd_add_mul_right_left, Int.neg_gcd]
    unfold frG
    rw [this]
  obtain ⟨x, hx⟩ : frG P D ∣ P := by unfold frG; split <;> first | exact Int.neg_dvd.2 (Int.gcd_dvd_left ..) | exact Int.gcd_dvd_left ..
  obtain ⟨y, hy⟩ : frG P D ∣ D := by unfold frG; split <;> first | exact Int.neg_dvd.2 (Int.gcd_dvd_right ..) | exact Int.gcd_dvd_right ..
  have hg : frG P D ≠ 0 := fun h0 => h (by rw [hy, h0, Int.zero_mul])
  unfold frD frN
  rw [e]
  generalize frG P D = g at *
  refine ⟨rfl, ?_⟩
  subst hx
  subst hy
  rw [show v * (g * y) - g * x = g * (v * y - x) by rw [Int.mul_sub, Int.mul_left_comm], Int.mul_tdiv_cancel_left _ hg, Int.mul_tdiv_cancel_left _ hg, Int.mul_tdiv_cancel_left _ hg]
  omega
theorem fr_less {P D c : Int} (h : D ≠ 0) : frD (P - c * D) D = frD P D ∧ frN P D - frN (P - c * D) D = c * frD P D := by
  have k1 := fr_comp0 (P := c * D - P) (v := 0) h
  have k2 := fr_comp0 (P := P) (v := c) h
  rw [Int.zero_mul, Int.zero_mul, show (0 : Int) - (c * D - P) = P - c * D by omega] at k1
  refine ⟨k1.1.trans k2.1, ?_⟩
  omega
/-- The series with another datum: right, or a number too large. -/
theorem srE_dt {nm : List UInt8} {l : List Ep} (hR : SRight l) (hN : nameB nm = true) (e : Nat) (he : e < l.length) : (srE nm (dtL l e l.length) = 0 ∧ ∀ i, i < l.length → dtB l e i) ∨ (srE nm (dtL l e l.length) ≠ 0 ∧ ∃ j, j < l.length ∧ ¬ dtB l e j) := by
  have h1 := hR.n1
  have h2 := hR.n20
  have hE : ∀ i, i < l.length → (epE (dtL l e l.length) i = 0 ↔ dtB l e i) := fun i hi => by
    have g := dtL_ep l e l.length i hi
    have g0 := dtL_ep l e l.length 0 (by omega)
    rw [if_pos hi] at g
    rw [if_pos (by omega)] at g0
    have g1 : (ep (dtL l e l.length) (i - 1)).d = (ep l (i - 1)).d := by rw [dtL_ep l e l.length (i - 1) (by omega), if_pos (by omega)]; rfl
    have hb := epE_ok (hR.ok i hi)
    have ho : epOk (dtE l e i) = (rngB ((ep l i).p - (ep l e).p) (-16000) 16000 && rngB (if i = e then 0 else (ep l i).m + (ep l e).m) 0 2048) := by
      unfold epOk dtE
      simp only
      rw [rngB_true.2 (show 0 ≤ (ep l i).d ∧ (ep l i).d ≤ 100000 by omega), rngB_true.2 (show -100 ≤ (ep l i).b ∧ (ep l i).b ≤ 100 by omega)]
      rfl
    unfold epE
    rw [g, g0, g1, ho]
    unfold dtB
    rw [show (dtE l e i).d = (ep l i).d from rfl, show (dtE l e 0).d = (ep l 0).d from rfl]
    constructor
    · intro h
      by_cases hq : (rngB ((ep l i).p - (ep l e).p) (-16000) 16000 && rngB (if i = e then 0 else (ep l i).m + (ep l e).m) 0 2048) = false
      · rw [if_pos hq] at h; omega
      · rw [Bool.not_eq_false, Bool.and_eq_true] at hq
        exact hq
    · rintro ⟨k1, k2⟩
      rw [k1, k2, if_neg (by simp), if_neg (by omega), if_neg (by omega)]
  have hs : srE nm (dtL l e l.length) = scE (dtL l e l.length) l.length 0 := by
    unfold srE
    rw [if_neg (by simp [hN]), dtL_len, if_neg (by omega), if_neg (by omega)]
  by_cases ha : ∀ i, i < l.length → dtB l e i
  · refine .inl ⟨?_, ha⟩
    rw [hs]
    exact scE_end _ _ _ fun j _ hj => (hE j (by omega)).2 (ha j (by omega))
  · refine .inr ⟨fun h => ha fun i hi => ?_, ?_⟩
    · rw [hs] at h
      exact (hE i hi).1 (scE_ok _ _ _ h i (by omega) (by omega))
    · apply Classical.byContradiction
      intro h
      exact ha fun i hi => Classical.byContradiction fun h' => h ⟨i, hi, h'⟩
end Go.Proofs.Ytnocdnhhlppahaa
namespace Go.Proofs.Ytnocdnhhlppahaa
open Go.ChangeShapes Go.WideShapes Go.ChangeAt Go Go.RowKit Go.Ab Go.Sr
set_option maxRecDepth 100000
set_option maxHeartbeats 8000000
attribute [local irreducible] OQ OW AL AW AD AF SW

theorem DaL_n {v : Value} {m0 : Mem} {l : List Ep} (nm : ByteArray) (h : Sh l v m0) (hn : (nm.size : Int) ≤ 9223372036854775807) (hl : (l.length : Int) ≤ 9223372036854775807) (hf : fewS nm.size l.length = false) (d : Int) : PCalls Try.prog 11 [srV nm v, .int .i64 d] m0 (.bool true) := by
  have HA := awake_q
  have HF := fun (m : Mem) (v : Value) (hS : SlE m v l) => few_q nm hS hn hl
  rw [hf] at HF
  have HX := Same_0
  have hro := h.ro
  rcases h with ⟨rfl, rfl, h3⟩ | ⟨rfl, rfl, h3⟩ | ⟨z0, rfl, rfl⟩
  all_goals
    refine PCalls.enter (t := [srV nm _, .int .i64 d, undef, undef, undef, undef, undef, undef, undef, undef, undef, undef, undef, undef, undef, undef, undef, undef, undef, undef, undef, undef, undef, undef, undef, undef, undef, undef, undef, undef, undef, undef, undef, undef, undef, undef, undef, undef, undef, undef, undef, undef, undef, undef, undef, undef, undef, undef, undef, undef, undef, undef, undef, undef, undef, undef, undef, undef, undef, undef, undef, undef, undef, undef, undef, undef, undef, undef, undef, undef, undef, undef, undef, undef, undef, undef, undef, undef, undef, undef, undef, undef, undef, undef, undef, undef, undef, undef, undef, undef, undef, undef, undef, undef, undef, undef, undef, undef, undef, undef, undef, undef, undef, undef, undef, undef, undef, undef, undef, undef, undef, undef, undef, undef, undef]) Try.func11 rfl (hro) rfl fun E => ?_
    repeat' (first
      | with_reducible refine Then.n ?_
      | with_reducible refine Then.r ?_
      | with_reducible refine Then.x ?_
      | with_reducible refine InB.n ?_
      | with_reducible refine InB.r ?_
      | with_reducible refine InB.hit ?_
      | with_reducible refine InB.miss (by decide) ?_
      | ((with_reducible refine AL.on ?_); first
        | (refine AL.gd rfl ?_; first | (refine AL.gskip rfl rfl ?_; (conv => (arg 5; try tactic => exact nrm))) | (refine AL.gs1 rfl rfl (fun hc => ?_) (fun hc => ?_) <;> (try simp only [decide_eq_true_eq, decide_eq_false_iff_not, Bool.not_true, Bool.not_false, Bool.not_eq_true', Bool.not_eq_false', Int.not_lt, Int.not_le, Classical.not_not, ne_eq] at hc) <;> first | (exfalso; first | contradiction | (first | omega | (simp at *; done)); done) | (conv => (arg 5; try tactic => exact nrm))) | (refine AL.gs0 rfl rfl (fun hc => ?_) (fun hc => ?_) <;> (try simp only [decide_eq_true_eq, decide_eq_false_iff_not, Bool.not_true, Bool.not_false, Bool.not_eq_true', Bool.not_eq_false', Int.not_lt, Int.not_le, Classical.not_not, ne_eq] at hc) <;> first | (exfalso; first | contradiction | (first | omega | (simp at *; done)); done) | (conv => (arg 5; try tactic => exact nrm))))
        | ((first | ((with_reducible refine AL.k_move ?_); first | (refine AL.q rfl (OQ.move (by conv => lhs; whnf)) ?_)) | ((with_reducible refine AL.k_load ?_); first | refine AL.q rfl (OQ.loadN (ty := 24) (n := 2) rfl (by kernel_rfl) (by kernel_rfl) rfl) ?_) | ((with_reducible refine AL.k_binOp ?_); first | refine AL.q rfl (OQ.eql rfl rfl) ?_ | refine AL.q rfl (OQ.neq rfl rfl) ?_) | ((with_reducible refine AL.k_assign ?_); first | (refine AL.q rfl (OQ.assign (by conv => lhs; whnf)) ?_)) | ((with_reducible refine AL.k_extract ?_); first | refine AL.q rfl (OQ.extract rfl rfl) ?_) | ((with_reducible refine AL.k_pick ?_); first | (refine AL.q rfl (OQ.pickT rfl (by with_reducible rfl) (by conv => lhs; whnf)) ?_) | (refine AL.q rfl (OQ.pickF rfl (by with_reducible rfl) (by conv => lhs; whnf)) ?_)) | ((with_reducible refine AL.k_unOp ?_); first | refine AL.q rfl (OQ.not rfl) ?_)); (conv => (arg 5; try tactic => exact nrm)))
        | ((first | first | refine AL.pcall (g := 15) rfl (by kernel_rfl) rfl (HA _) ?_ | refine AL.pcall (g := 16) rfl (by kernel_rfl) rfl ((by first | exact HF _ _ (.blk 0 _ rfl rfl rfl) | exact HF _ _ (.nil h3 rfl) | exact HF _ _ (.lost h3 rfl))) ?_); (conv => (arg 5; try tactic => exact nrm)))
        | ((first | ((with_reducible refine AL.k_alloc ?_); first | refine AL.w rfl (OW.alloc (ty := 24) (z := [.string ⟨#[]⟩, .slice none 0 0]) (by kernel_rfl) rfl) ?_ | refine AL.w rfl (OW.alloc (ty := 29) (z := [.int .i64 0, .int .i64 0, .int .i64 0, .int .i64 0, .int .i64 0, .int .i64 0]) (by kernel_rfl) rfl) ?_) | ((with_reducible refine AL.k_store ?_); first | (refine AL.w rfl (OW.store (ty := 24) (n := 2) rfl (by conv => lhs; whnf) rfl rfl (by kernel_rfl) rfl rfl (by decide) rfl (Nat.le_of_ble_eq_true rfl) (by intro r h; cases h)) ?_) | (refine AL.w rfl (OW.store (ty := 29) (n := 6) rfl (by conv => lhs; whnf) rfl rfl (by kernel_rfl) rfl rfl (by decide) rfl (Nat.le_of_ble_eq_true rfl) (by intro r h; cases h)) ?_)) | ((with_reducible refine AL.k_box ?_); first | (refine AL.w rfl (OW.box (by conv => lhs; whnf) (by intro r h; cases h)) ?_))); (conv => (arg 5; try tactic => exact nrm)); (conv => (arg 6; try tactic => exact nrm)))
        | (refine AL.bs rfl (fun hc => ?_) (fun hc => ?_) <;> (fail_if_success (with_reducible exact lit_no hc)) <;> (try simp only [decide_eq_true_eq, decide_eq_false_iff_not, Bool.not_true, Bool.not_false, Bool.not_eq_true', Bool.not_eq_false', Int.not_lt, Int.not_le, Classical.not_not, ne_eq] at hc) <;> first | (exfalso; first | contradiction | (first | omega | (simp at *; done)); done) | (conv => (arg 5; try tactic => exact nrm)))
        | refine AL.nil ?_)
      | ((with_reducible refine AW.on ?_); first
        | refine AW.seq ?_
        | refine AW.skip ?_
        | refine AW.exit ?_
        | refine AW.ret ?_
        | refine AW.block ?_
        | (refine AW.draw (id := 18) 42 #[0, 1, 0, 4, 15, 31, 63, 127, 63, 319, 1023, 2047, 4095, 8191, 16383, 32767, 8191, 73727, 204799, 524287, 1048575, 2097151, 4194303, 8388607, 16777215, 4194303, 37748735, 104857599, 268435455, 4194303, 541065215, 4194303, 3762290687, 8057257983, 16647192575, 4194303, 34363932671, 103083409407, 274345230335, 549755813887, 1099511627775, 2199023255551] (by kernel_rfl) (by kernel_rfl) ?_; (conv => (arg 8; simp only [List.take_succ_cons, List.take_zero])))
        | (refine AW.region (id := 2) ?_; exfalso; first | omega | (simp at *; done); done)
        | (refine AW.region (id := 5) ?_; exfalso; first | omega | (simp at *; done); done)
        | refine AW.region ?_
        | (refine AW.conds rfl (fun hc => ?_) (fun hc => ?_) <;> (try simp only [decide_eq_true_eq, decide_eq_false_iff_not, Bool.not_true, Bool.not_false, Bool.not_eq_true', Bool.not_eq_false', Int.not_lt, Int.not_le, Classical.not_not, ne_eq] at hc) <;> first | (exfalso; first | contradiction | (first | omega | (simp at *; done)); done) | skip))
      | ((with_reducible refine AD.on ?_); first
        | (refine AD.gskip rfl rfl rfl ?_; (conv => (arg 10; try tactic => exact nrm)))
        | ((first | refine AD.gn1 rfl rfl (by with_reducible rfl) rfl ?_ | refine AD.gn0 rfl rfl (by with_reducible rfl) rfl ?_); (conv => (arg 10; try tactic => exact nrm)))
        | ((first | ((with_reducible refine AD.k_move ?_); first | (refine AD.q rfl (OQ.move (by conv => lhs; whnf)) rfl rfl rfl ?_) | (refine AD.qc rfl rfl (by with_reducible rfl) (OQ.move (by conv => lhs; whnf)) rfl rfl rfl ?_)) | ((with_reducible refine AD.k_load ?_); first | refine AD.q rfl (OQ.loadN (ty := 28) (n := 2) rfl (by kernel_rfl) (by kernel_rfl) rfl) rfl rfl rfl ?_ | refine AD.qc rfl rfl (by with_reducible rfl) (OQ.loadN (ty := 28) (n := 2) rfl (by kernel_rfl) (by kernel_rfl) rfl) rfl rfl rfl ?_ | (refine AD.qc rfl rfl (by with_reducible rfl) (OQ.load1 (ty := 3) rfl (by kernel_rfl) (by conv => lhs; whnf)) rfl rfl rfl ?_) | (refine AD.qc rfl rfl (by with_reducible rfl) (OQ.load1 (ty := 22) rfl (by kernel_rfl) (by conv => lhs; whnf)) rfl rfl rfl ?_)) | ((with_reducible refine AD.k_binOp ?_); first | refine AD.q rfl (eql_t28 rfl rfl) rfl rfl rfl ?_ | refine AD.qc rfl rfl (by with_reducible rfl) (eql_t28 rfl rfl) rfl rfl rfl ?_ | refine AD.qc rfl rfl (by with_reducible rfl) (OQ.eql rfl rfl) rfl rfl rfl ?_ | refine AD.qc rfl rfl (by with_reducible rfl) (OQ.subi rfl rfl (by omega)) rfl rfl rfl ?_ | refine AD.qc rfl rfl (by with_reducible rfl) (OQ.sub rfl rfl) rfl rfl rfl ?_ | refine AD.qc rfl rfl (by with_reducible rfl) (OQ.muli rfl rfl (by omega)) rfl rfl rfl ?_ | refine AD.qc rfl rfl (by with_reducible rfl) (OQ.mul rfl rfl) rfl rfl rfl ?_) | ((with_reducible refine AD.k_assign ?_); first | (refine AD.q rfl (OQ.assign (by conv => lhs; whnf)) rfl rfl rfl ?_)) | ((with_reducible refine AD.k_indexAddr ?_); first | refine AD.q rfl (OQ.idxPtr (ty := 29) (n := 2) (l := 3) (g := true) rfl rfl (by kernel_rfl) (by omega) (by omega)) rfl rfl rfl ?_ | refine AD.qc rfl rfl (by with_reducible rfl) (OQ.idxPtr (ty := 29) (n := 2) (l := 3) (g := true) rfl rfl (by kernel_rfl) (by omega) (by omega)) rfl rfl rfl ?_ | refine AD.qc rfl rfl (by with_reducible rfl) (OQ.idxAddr (ty := 22) (z := 4) (g := true) rfl rfl (by kernel_rfl) (by omega) (by omega)) rfl rfl rfl ?_) | ((with_reducible refine AD.k_pick ?_); first | (refine AD.q rfl (OQ.pickT rfl (by with_reducible rfl) (by conv => lhs; whnf)) rfl rfl rfl ?_) | (refine AD.q rfl (OQ.pickF rfl (by with_reducible rfl) (by conv => lhs; whnf)) rfl rfl rfl ?_)) | ((with_reducible refine AD.k_fieldAddr ?_); first | refine AD.qc rfl rfl (by with_reducible rfl) (OQ.fieldA (ty := 28) (i := 1) (n := 1) (off := 1) (g := false) rfl (by kernel_rfl) (by decide)) rfl rfl rfl ?_ | refine AD.qc rfl rfl (by with_reducible rfl) (OQ.fieldA (ty := 28) (i := 0) (n := 1) (off := 0) (g := false) rfl (by kernel_rfl) (by decide)) rfl rfl rfl ?_ | refine AD.qc rfl rfl (by with_reducible rfl) (OQ.fieldA (ty := 24) (i := 1) (n := 1) (off := 1) (g := false) rfl (by kernel_rfl) (by decide)) rfl rfl rfl ?_ | refine AD.qc rfl rfl (by with_reducible rfl) (OQ.fieldA (ty := 85) (i := 2) (n := 1) (off := 2) (g := false) rfl (by kernel_rfl) (by decide)) rfl rfl rfl ?_)); (conv => (arg 10; try tactic => exact nrm)))
        | (refine AD.bs rfl (fun hc => ?_) (fun hc => ?_) <;> (fail_if_success (with_reducible exact lit_no hc)) <;> (try simp only [decide_eq_true_eq, decide_eq_false_iff_not, Bool.not_true, Bool.not_false, Bool.not_eq_true', Bool.not_eq_false', Int.not_lt, Int.not_le, Classical.not_not, ne_eq] at hc) <;> first | (exfalso; first | contradiction | (first | omega | (simp at *; done)); done) | (conv => (arg 10; try tactic => exact nrm)))
        | (refine AD.gs1 rfl rfl (fun hc => ?_) (fun hc => ?_) <;> (fail_if_success (with_reducible exact lit_no hc)) <;> (try simp only [decide_eq_true_eq, decide_eq_false_iff_not, Bool.not_true, Bool.not_false, Bool.not_eq_true', Bool.not_eq_false', Int.not_lt, Int.not_le, Classical.not_not, ne_eq] at hc) <;> first | (exfalso; first | contradiction | (first | omega | (simp at *; done)); done) | (conv => (arg 10; try tactic => exact nrm)))
        | (refine AD.gs0 rfl rfl (fun hc => ?_) (fun hc => ?_) <;> (fail_if_success (with_reducible exact lit_no hc)) <;> (try simp only [decide_eq_true_eq, decide_eq_false_iff_not, Bool.not_true, Bool.not_false, Bool.not_eq_true', Bool.not_eq_false', Int.not_lt, Int.not_le, Classical.not_not, ne_eq] at hc) <;> first | (exfalso; first | contradiction | (first | omega | (simp at *; done)); done) | (conv => (arg 10; try tactic => exact nrm)))
        | (refine AD.nil ?_; (conv => (arg 4; simp only [List.drop_succ_cons, List.drop_zero, List.drop_nil])); (conv => (arg 5; try tactic => exact nrm)); (conv => (arg 6; try tactic => exact nrm))))
      | ((with_reducible refine FinP.on ?_); (first | refine FinP.ret (.tmp (by conv => lhs; whnf) .nil) ?_ rfl | refine FinP.end (.tmp (by conv => lhs; whnf) .nil) ?_ rfl); (try simp only [pack, List.drop, List.take]); all_goals (rfl)))
theorem DaL_e {v : Value} {m0 : Mem} {l : List Ep} (nm : ByteArray) (h : Sh l v m0) (hn : nm.size ≤ 1000) (hl : l.length ≤ 1000) (hf : fewS nm.size l.length = true) (c : Int) (hc : srE nm.data.toList l = c) (hc0 : c ≠ 0) (d : Int) : PCalls Try.prog 11 [srV nm v, .int .i64 d] m0 (.bool true) := by
  have HA := awake_q
  have HF := fun (m : Mem) (v : Value) (hS : SlE m v l) => few_q nm hS (by omega) (by omega)
  rw [hf] at HF
  have HC := fun (m : Mem) (v : Value) (hS : SlE m v l) => rCheckSeries_q nm hS hn hl
  rw [hc] at HC
  have HY := fun (m : Mem) (v : Value) (hS : SlE m v l) => Copy_q nm hS hl
  have H1 := fun (m : Mem) (b : Nat) (k : Blk) (hb : m.at b = some k) (hk : k.cells = flatE l) => Datum_e (m := m) d c (.blk b k rfl hb hk) hn hl hc hc0
  have HX := Same_0
  have hro := h.ro
  rcases h with ⟨rfl, rfl, h3⟩ | ⟨rfl, rfl, h3⟩ | ⟨z0, rfl, rfl⟩
  all_goals
    refine PCalls.enter (t := [srV nm _, .int .i64 d, undef, undef, undef, undef, undef, undef, undef, undef, undef, undef, undef, undef, undef, undef, undef, undef, undef, undef, undef, undef, undef, undef, undef, undef, undef, undef, undef, undef, undef, undef, undef, undef, undef, undef, undef, undef, undef, undef, undef, undef, undef, undef, undef, undef, undef, undef, undef, undef, undef, undef, undef, undef, undef, undef, undef, undef, undef, undef, undef, undef, undef, undef, undef, undef, undef, undef, undef, undef, undef, undef, undef, undef, undef, undef, undef, undef, undef, undef, undef, undef, undef, undef, undef, undef, undef, undef, undef, undef, undef, undef, undef, undef, undef, undef, undef, undef, undef, undef, undef, undef, undef, undef, undef, undef, undef, undef, undef, undef, undef, undef, undef, undef, undef]) Try.func11 rfl (hro) rfl fun E => ?_
    repeat' (first
      | with_reducible refine Then.n ?_
      | with_reducible refine Then.r ?_
      | with_reducible refine Then.x ?_
      | with_reducible refine InB.n ?_
      | with_reducible refine InB.r ?_
      | with_reducible refine InB.hit ?_
      | with_reducible refine InB.miss (by decide) ?_
      | ((with_reducible refine AL.on ?_); first
        | (refine AL.gd rfl ?_; first | (refine AL.gskip rfl rfl ?_; (conv => (arg 5; try tactic => exact nrm))) | (refine AL.gs1 rfl rfl (fun hc => ?_) (fun hc => ?_) <;> (try simp only [decide_eq_true_eq, decide_eq_false_iff_not, Bool.not_true, Bool.not_false, Bool.not_eq_true', Bool.not_eq_false', Int.not_lt, Int.not_le, Classical.not_not, ne_eq] at hc) <;> first | (exfalso; first | contradiction | (first | omega | (simp at *; done)); done) | (conv => (arg 5; try tactic => exact nrm))) | (refine AL.gs0 rfl rfl (fun hc => ?_) (fun hc => ?_) <;> (try simp only [decide_eq_true_eq, decide_eq_false_iff_not, Bool.not_true, Bool.not_false, Bool.not_eq_true', Bool.not_eq_false', Int.not_lt, Int.not_le, Classical.not_not, ne_eq] at hc) <;> first | (exfalso; first | contradiction | (first | omega | (simp at *; done)); done) | (conv => (arg 5; try tactic => exact nrm))))
        | ((first | ((with_reducible refine AL.k_move ?_); first | (refine AL.q rfl (OQ.move (by conv => lhs; whnf)) ?_)) | ((with_reducible refine AL.k_load ?_); first | refine AL.q rfl (OQ.loadN (ty := 24) (n := 2) rfl (by kernel_rfl) (by kernel_rfl) rfl) ?_) | ((with_reducible refine AL.k_binOp ?_); first | refine AL.q rfl (OQ.eql rfl rfl) ?_ | refine AL.q rfl (OQ.neq rfl rfl) ?_) | ((with_reducible refine AL.k_assign ?_); first | (refine AL.q rfl (OQ.assign (by conv => lhs; whnf)) ?_)) | ((with_reducible refine AL.k_extract ?_); first | refine AL.q rfl (OQ.extract rfl rfl) ?_) | ((with_reducible refine AL.k_pick ?_); first | (refine AL.q rfl (OQ.pickT rfl (by with_reducible rfl) (by conv => lhs; whnf)) ?_) | (refine AL.q rfl (OQ.pickF rfl (by with_reducible rfl) (by conv => lhs; whnf)) ?_)) | ((with_reducible refine AL.k_unOp ?_); first | refine AL.q rfl (OQ.not rfl) ?_)); (conv => (arg 5; try tactic => exact nrm)))
        | ((first | first | refine AL.pcall (g := 15) rfl (by kernel_rfl) rfl (HA _) ?_ | refine AL.pcall (g := 16) rfl (by kernel_rfl) rfl ((by first | exact HF _ _ (.blk 0 _ rfl rfl rfl) | exact HF _ _ (.nil h3 rfl) | exact HF _ _ (.lost h3 rfl))) ?_ | refine AL.pcall (g := 52) rfl (by kernel_rfl) rfl (H1 _ _ _ rfl rfl) ?_ | refine AL.pcall (g := 20) rfl (by kernel_rfl) rfl ((by first | exact HC _ _ (.blk 0 _ rfl rfl rfl) | exact HC _ _ (.nil h3 rfl) | exact HC _ _ (.lost h3 rfl))) ?_ | refine AL.pcall (g := 54) rfl (by kernel_rfl) rfl (HX _) ?_); (conv => (arg 5; try tactic => exact nrm)))
        | ((first | ((with_reducible refine AL.k_call ?_); first | refine AL.acall (g := 18) rfl (by kernel_rfl) rfl ((by first | exact HY _ _ (.blk 0 _ rfl rfl rfl) | exact HY _ _ (.nil h3 rfl) | exact HY _ _ (.lost h3 rfl))) ?_) | ((with_reducible refine AL.k_alloc ?_); first | refine AL.w rfl (OW.alloc (ty := 24) (z := [.string ⟨#[]⟩, .slice none 0 0]) (by kernel_rfl) rfl) ?_ | refine AL.w rfl (OW.alloc (ty := 29) (z := [.int .i64 0, .int .i64 0, .int .i64 0, .int .i64 0, .int .i64 0, .int .i64 0]) (by kernel_rfl) rfl) ?_) | ((with_reducible refine AL.k_store ?_); first | (refine AL.w rfl (OW.store (ty := 24) (n := 2) rfl (by conv => lhs; whnf) rfl rfl (by kernel_rfl) rfl rfl (by decide) rfl (Nat.le_of_ble_eq_true rfl) (by intro r h; cases h)) ?_) | (refine AL.w rfl (OW.store (ty := 29) (n := 6) rfl (by conv => lhs; whnf) rfl rfl (by kernel_rfl) rfl rfl (by decide) rfl (Nat.le_of_ble_eq_true rfl) (by intro r h; cases h)) ?_)) | ((with_reducible refine AL.k_box ?_); first | (refine AL.w rfl (OW.box (by conv => lhs; whnf) (by intro r h; cases h)) ?_))); (conv => (arg 5; try tactic => exact nrm)); (conv => (arg 6; try tactic => exact nrm)))
        | (refine AL.bs rfl (fun hc => ?_) (fun hc => ?_) <;> (fail_if_success (with_reducible exact lit_no hc)) <;> (try simp only [decide_eq_true_eq, decide_eq_false_iff_not, Bool.not_true, Bool.not_false, Bool.not_eq_true', Bool.not_eq_false', Int.not_lt, Int.not_le, Classical.not_not, ne_eq] at hc) <;> first | (exfalso; first | contradiction | (first | omega | (simp at *; done)); done) | (conv => (arg 5; try tactic => exact nrm)))
        | refine AL.nil ?_)
      | ((with_reducible refine AW.on ?_); first
        | refine AW.seq ?_
        | refine AW.skip ?_
        | refine AW.exit ?_
        | refine AW.ret ?_
        | refine AW.block ?_
        | (refine AW.draw (id := 18) 42 #[0, 1, 0, 4, 15, 31, 63, 127, 63, 319, 1023, 2047, 4095, 8191, 16383, 32767, 8191, 73727, 204799, 524287, 1048575, 2097151, 4194303, 8388607, 16777215, 4194303, 37748735, 104857599, 268435455, 4194303, 541065215, 4194303, 3762290687, 8057257983, 16647192575, 4194303, 34363932671, 103083409407, 274345230335, 549755813887, 1099511627775, 2199023255551] (by kernel_rfl) (by kernel_rfl) ?_; (conv => (arg 8; simp only [List.take_succ_cons, List.take_zero])))
        | (refine AW.region (id := 2) ?_; exfalso; first | omega | (simp at *; done); done)
        | (refine AW.region (id := 4) ?_; exfalso; first | omega | (simp at *; done); done)
        | (refine AW.region (id := 9) ?_; exfalso; first | omega | (simp at *; done); done)
        | (refine AW.region (id := 11) ?_; exfalso; first | omega | (simp at *; done); done)
        | (refine AW.region (id := 14) ?_; exfalso; first | omega | (simp at *; done); done)
        | refine AW.region ?_
        | (refine AW.conds rfl (fun hc => ?_) (fun hc => ?_) <;> (try simp only [decide_eq_true_eq, decide_eq_false_iff_not, Bool.not_true, Bool.not_false, Bool.not_eq_true', Bool.not_eq_false', Int.not_lt, Int.not_le, Classical.not_not, ne_eq] at hc) <;> first | (exfalso; first | contradiction | (first | omega | (simp at *; done)); done) | skip))
      | ((with_reducible refine AD.on ?_); first
        | (refine AD.gskip rfl rfl rfl ?_; (conv => (arg 10; try tactic => exact nrm)))
        | ((first | refine AD.gn1 rfl rfl (by with_reducible rfl) rfl ?_ | refine AD.gn0 rfl rfl (by with_reducible rfl) rfl ?_); (conv => (arg 10; try tactic => exact nrm)))
        | ((first | ((with_reducible refine AD.k_move ?_); first | (refine AD.q rfl (OQ.move (by conv => lhs; whnf)) rfl rfl rfl ?_) | (refine AD.qc rfl rfl (by with_reducible rfl) (OQ.move (by conv => lhs; whnf)) rfl rfl rfl ?_)) | ((with_reducible refine AD.k_load ?_); first | refine AD.q rfl (OQ.loadN (ty := 28) (n := 2) rfl (by kernel_rfl) (by kernel_rfl) rfl) rfl rfl rfl ?_ | refine AD.qc rfl rfl (by with_reducible rfl) (OQ.loadN (ty := 28) (n := 2) rfl (by kernel_rfl) (by kernel_rfl) rfl) rfl rfl rfl ?_ | (refine AD.qc rfl rfl (by with_reducible rfl) (OQ.load1 (ty := 3) rfl (by kernel_rfl) (by conv => lhs; whnf)) rfl rfl rfl ?_) | (refine AD.qc rfl rfl (by with_reducible rfl) (OQ.load1 (ty := 22) rfl (by kernel_rfl) (by conv => lhs; whnf)) rfl rfl rfl ?_)) | ((with_reducible refine AD.k_binOp ?_); first | refine AD.q rfl (eql_t28 rfl rfl) rfl rfl rfl ?_ | refine AD.qc rfl rfl (by with_reducible rfl) (eql_t28 rfl rfl) rfl rfl rfl ?_ | refine AD.qc rfl rfl (by with_reducible rfl) (OQ.eql rfl rfl) rfl rfl rfl ?_ | refine AD.qc rfl rfl (by with_reducible rfl) (OQ.subi rfl rfl (by omega)) rfl rfl rfl ?_ | refine AD.qc rfl rfl (by with_reducible rfl) (OQ.sub rfl rfl) rfl rfl rfl ?_ | refine AD.qc rfl rfl (by with_reducible rfl) (OQ.muli rfl rfl (by omega)) rfl rfl rfl ?_ | refine AD.qc rfl rfl (by with_reducible rfl) (OQ.mul rfl rfl) rfl rfl rfl ?_) | ((with_reducible refine AD.k_assign ?_); first | (refine AD.q rfl (OQ.assign (by conv => lhs; whnf)) rfl rfl rfl ?_)) | ((with_reducible refine AD.k_indexAddr ?_); first | refine AD.q rfl (OQ.idxPtr (ty := 29) (n := 2) (l := 3) (g := true) rfl rfl (by kernel_rfl) (by omega) (by omega)) rfl rfl rfl ?_ | refine AD.qc rfl rfl (by with_reducible rfl) (OQ.idxPtr (ty := 29) (n := 2) (l := 3) (g := true) rfl rfl (by kernel_rfl) (by omega) (by omega)) rfl rfl rfl ?_ | refine AD.qc rfl rfl (by with_reducible rfl) (OQ.idxAddr (ty := 22) (z := 4) (g := true) rfl rfl (by kernel_rfl) (by omega) (by omega)) rfl rfl rfl ?_) | ((with_reducible refine AD.k_pick ?_); first | (refine AD.q rfl (OQ.pickT rfl (by with_reducible rfl) (by conv => lhs; whnf)) rfl rfl rfl ?_) | (refine AD.q rfl (OQ.pickF rfl (by with_reducible rfl) (by conv => lhs; whnf)) rfl rfl rfl ?_)) | ((with_reducible refine AD.k_fieldAddr ?_); first | refine AD.qc rfl rfl (by with_reducible rfl) (OQ.fieldA (ty := 28) (i := 1) (n := 1) (off := 1) (g := false) rfl (by kernel_rfl) (by decide)) rfl rfl rfl ?_ | refine AD.qc rfl rfl (by with_reducible rfl) (OQ.fieldA (ty := 28) (i := 0) (n := 1) (off := 0) (g := false) rfl (by kernel_rfl) (by decide)) rfl rfl rfl ?_ | refine AD.qc rfl rfl (by with_reducible rfl) (OQ.fieldA (ty := 24) (i := 1) (n := 1) (off := 1) (g := false) rfl (by kernel_rfl) (by decide)) rfl rfl rfl ?_ | refine AD.qc rfl rfl (by with_reducible rfl) (OQ.fieldA (ty := 85) (i := 2) (n := 1) (off := 2) (g := false) rfl (by kernel_rfl) (by decide)) rfl rfl rfl ?_)); (conv => (arg 10; try tactic => exact nrm)))
        | (refine AD.bs rfl (fun hc => ?_) (fun hc => ?_) <;> (fail_if_success (with_reducible exact lit_no hc)) <;> (try simp only [decide_eq_true_eq, decide_eq_false_iff_not, Bool.not_true, Bool.not_false, Bool.not_eq_true', Bool.not_eq_false', Int.not_lt, Int.not_le, Classical.not_not, ne_eq] at hc) <;> first | (exfalso; first | contradiction | (first | omega | (simp at *; done)); done) | (conv => (arg 10; try tactic => exact nrm)))
        | (refine AD.gs1 rfl rfl (fun hc => ?_) (fun hc => ?_) <;> (fail_if_success (with_reducible exact lit_no hc)) <;> (try simp only [decide_eq_true_eq, decide_eq_false_iff_not, Bool.not_true, Bool.not_false, Bool.not_eq_true', Bool.not_eq_false', Int.not_lt, Int.not_le, Classical.not_not, ne_eq] at hc) <;> first | (exfalso; first | contradiction | (first | omega | (simp at *; done)); done) | (conv => (arg 10; try tactic => exact nrm)))
        | (refine AD.gs0 rfl rfl (fun hc => ?_) (fun hc => ?_) <;> (fail_if_success (with_reducible exact lit_no hc)) <;> (try simp only [decide_eq_true_eq, decide_eq_false_iff_not, Bool.not_true, Bool.not_false, Bool.not_eq_true', Bool.not_eq_false', Int.not_lt, Int.not_le, Classical.not_not, ne_eq] at hc) <;> first | (exfalso; first | contradiction | (first | omega | (simp at *; done)); done) | (conv => (arg 10; try tactic => exact nrm)))
        | (refine AD.nil ?_; (conv => (arg 4; simp only [List.drop_succ_cons, List.drop_zero, List.drop_nil])); (conv => (arg 5; try tactic => exact nrm)); (conv => (arg 6; try tactic => exact nrm))))
      | ((with_reducible refine FinP.on ?_); (first | refine FinP.ret (.tmp (by conv => lhs; whnf) .nil) ?_ rfl | refine FinP.end (.tmp (by conv => lhs; whnf) .nil) ?_ rfl); (try simp only [pack, List.drop, List.take]); all_goals (rfl)))

/-- No series: an error on both sides. -/
theorem DaL_0 {l : List Ep} (nm : ByteArray) (hn : nm.size ≤ 1000) (hl : l.length ≤ 1000) (hf : fewS nm.size l.length = true) (hc : srE nm.data.toList l = 0) (d g : Int) (hg : g ≠ 0)
    (H1 : ∀ (m : Mem) (i : Nat) (bk : Blk), m.at i = some bk → bk.cells = flatE l → PCalls Try.prog 52 [srI nm i l.length, .int .i64 d] m (.tuple #[noS, .int .i64 g]))
    (H2 : ∀ (m : Mem) (i : Nat) (bk : Blk), m.at i = some bk → bk.cells = flatE l → PCalls Try.prog 53 [srI nm i l.length, .int .i64 d] m (.tuple #[noS, .int .i64 g])) (z0 : Nat) :
    PCalls Try.prog 11 [srI nm 0 l.length, .int .i64 d] [some ⟨flatE l, false, z0⟩] (.bool true) := by
  have HA := awake_q
  have HF := fun (m : Mem) (v : Value) (hS : SlE m v l) => few_q nm hS (by omega) (by omega)
  rw [hf] at HF
  have HC := fun (m : Mem) (v : Value) (hS : SlE m v l) => rCheckSeries_q nm hS hn hl
  rw [hc] at HC
  have HY := fun (m : Mem) (v : Value) (hS : SlE m v l) => Copy_q nm hS hl
  have HX := Same_0
  refine PCalls.enter (t := [srI nm 0 l.length, .int .i64 d, undef, undef, undef, undef, undef, undef, undef, undef, undef, undef, undef, undef, undef, undef, undef, undef, undef, undef, undef, undef, undef, undef, undef, undef, undef, undef, undef, undef, undef, undef, undef, undef, undef, undef, undef, undef, undef, undef, undef, undef, undef, undef, undef, undef, undef, undef, undef, undef, undef, undef, undef, undef, undef, undef, undef, undef, undef, undef, undef, undef, undef, undef, undef, undef, undef, undef, undef, undef, undef, undef, undef, undef, undef, undef, undef, undef, undef, undef, undef, undef, undef, undef, undef, undef, undef, undef, undef, undef, undef, undef, undef, undef, undef, undef, undef, undef, undef, undef, undef, undef, undef, undef, undef, undef, undef, undef, undef, undef, undef, undef, undef, undef, undef]) Try.func11 rfl (ro1 _ rfl) rfl fun E => ?_
  repeat' (first
    | with_reducible refine Then.n ?_
    | with_reducible refine Then.r ?_
    | with_reducible refine Then.x ?_
    | with_reducible refine InB.n ?_
    | with_reducible refine InB.r ?_
    | with_reducible refine InB.hit ?_
    | with_reducible refine InB.miss (by decide) ?_
    | ((with_reducible refine AL.on ?_); first
      | (refine AL.gd rfl ?_; first | (refine AL.gskip rfl rfl ?_; (conv => (arg 5; try tactic => exact nrm))) | (refine AL.gs1 rfl rfl (fun hc => ?_) (fun hc => ?_) <;> (try simp only [decide_eq_true_eq, decide_eq_false_iff_not, Bool.not_true, Bool.not_false, Bool.not_eq_true', Bool.not_eq_false', Int.not_lt, Int.not_le, Classical.not_not, ne_eq] at hc) <;> first | (exfalso; first | contradiction | (first | omega | (simp at *; done)); done) | (conv => (arg 5; try tactic => exact nrm))) | (refine AL.gs0 rfl rfl (fun hc => ?_) (fun hc => ?_) <;> (try simp only [decide_eq_true_eq, decide_eq_false_iff_not, Bool.not_true, Bool.not_false, Bool.not_eq_true', Bool.not_eq_false', Int.not_lt, Int.not_le, Classical.not_not, ne_eq] at hc) <;> first | (exfalso; first | contradiction | (first | omega | (simp at *; done)); done) | (conv => (arg 5; try tactic => exact nrm))))
      | ((first | ((with_reducible refine AL.k_move ?_); first | (refine AL.q rfl (OQ.move (by conv => lhs; whnf)) ?_)) | ((with_reducible refine AL.k_load ?_); first | refine AL.q rfl (OQ.loadN (ty := 24) (n := 2) rfl (by kernel_rfl) (by kernel_rfl) rfl) ?_) | ((with_reducible refine AL.k_binOp ?_); first | refine AL.q rfl (OQ.eql rfl rfl) ?_ | refine AL.q rfl (OQ.neq rfl rfl) ?_) | ((with_reducible refine AL.k_assign ?_); first | (refine AL.q rfl (OQ.assign (by conv => lhs; whnf)) ?_)) | ((with_reducible refine AL.k_extract ?_); first | refine AL.q rfl (OQ.extract rfl rfl) ?_) | ((with_reducible refine AL.k_pick ?_); first | (refine AL.q rfl (OQ.pickT rfl (by with_reducible rfl) (by conv => lhs; whnf)) ?_) | (refine AL.q rfl (OQ.pickF rfl (by with_reducible rfl) (by conv => lhs; whnf)) ?_)) | ((with_reducible refine AL.k_unOp ?_); first | refine AL.q rfl (OQ.not rfl) ?_)); (conv => (arg 5; try tactic => exact nrm)))
      | ((first | first | refine AL.pcall (g := 15) rfl (by kernel_rfl) rfl (HA _) ?_ | refine AL.pcall (g := 16) rfl (by kernel_rfl) rfl (HF _ _ (.blk 0 _ rfl rfl rfl)) ?_ | refine AL.pcall (g := 52) rfl (by kernel_rfl) rfl (H1 _ _ _ rfl rfl) ?_ | refine AL.pcall (g := 20) rfl (by kernel_rfl) rfl (HC _ _ (.blk 0 _ rfl rfl rfl)) ?_ | refine AL.pcall (g := 53) rfl (by kernel_rfl) rfl (H2 _ _ _ rfl rfl) ?_ | refine AL.pcall (g := 54) rfl (by kernel_rfl) rfl (HX _) ?_); (conv => (arg 5; try tactic => exact nrm)))
      | ((first | ((with_reducible refine AL.k_call ?_); first | refine AL.acall (g := 18) rfl (by kernel_rfl) rfl ((HY _ _ (.blk 0 _ rfl rfl rfl))) ?_) | ((with_reducible refine AL.k_alloc ?_); first | refine AL.w rfl (OW.alloc (ty := 24) (z := [.string ⟨#[]⟩, .slice none 0 0]) (by kernel_rfl) rfl) ?_ | refine AL.w rfl (OW.alloc (ty := 29) (z := [.int .i64 0, .int .i64 0, .int .i64 0, .int .i64 0, .int .i64 0, .int .i64 0]) (by kernel_rfl) rfl) ?_) | ((with_reducible refine AL.k_store ?_); first | (refine AL.w rfl (OW.store (ty := 24) (n := 2) rfl (by conv => lhs; whnf) rfl rfl (by kernel_rfl) rfl rfl (by decide) rfl (Nat.le_of_ble_eq_true rfl) (by intro r h; cases h)) ?_) | (refine AL.w rfl (OW.store (ty := 29) (n := 6) rfl (by conv => lhs; whnf) rfl rfl (by kernel_rfl) rfl rfl (by decide) rfl (Nat.le_of_ble_eq_true rfl) (by intro r h; cases h)) ?_)) | ((with_reducible refine AL.k_box ?_); first | (refine AL.w rfl (OW.box (by conv => lhs; whnf) (by intro r h; cases h)) ?_))); (conv => (arg 5; try tactic => exact nrm)); (conv => (arg 6; try tactic => exact nrm)))
      | (refine AL.bs rfl (fun hc => ?_) (fun hc => ?_) <;> (fail_if_success (with_reducible exact lit_no hc)) <;> (try simp only [decide_eq_true_eq, decide_eq_false_iff_not, Bool.not_true, Bool.not_false, Bool.not_eq_true', Bool.not_eq_false', Int.not_lt, Int.not_le, Classical.not_not, ne_eq] at hc) <;> first | (exfalso; first | contradiction | (first | omega | (simp at *; done)); done) | (conv => (arg 5; try tactic => exact nrm)))
      | refine AL.nil ?_)
    | ((with_reducible refine AW.on ?_); first
      | refine AW.seq ?_
      | refine AW.skip ?_
      | refine AW.exit ?_
      | refine AW.ret ?_
      | refine AW.block ?_
      | (refine AW.draw (id := 18) 42 #[0, 1, 0, 4, 15, 31, 63, 127, 63, 319, 1023, 2047, 4095, 8191, 16383, 32767, 8191, 73727, 204799, 524287, 1048575, 2097151, 4194303, 8388607, 16777215, 4194303, 37748735, 104857599, 268435455, 4194303, 541065215, 4194303, 3762290687, 8057257983, 16647192575, 4194303, 34363932671, 103083409407, 274345230335, 549755813887, 1099511627775, 2199023255551] (by kernel_rfl) (by kernel_rfl) ?_; (conv => (arg 8; simp only [List.take_succ_cons, List.take_zero])))
      | (refine AW.region (id := 2) ?_; exfalso; first | omega | (simp at *; done); done)
      | (refine AW.region (id := 4) ?_; exfalso; first | omega | (simp at *; done); done)
      | (refine AW.region (id := 11) ?_; exfalso; first | omega | (simp at *; done); done)
      | (refine AW.region (id := 14) ?_; exfalso; first | omega | (simp at *; done); done)
      | refine AW.region ?_
      | (refine AW.conds rfl (fun hc => ?_) (fun hc => ?_) <;> (try simp only [decide_eq_true_eq, decide_eq_false_iff_not, Bool.not_true, Bool.not_false, Bool.not_eq_true', Bool.not_eq_false', Int.not_lt, Int.not_le, Classical.not_not, ne_eq] at hc) <;> first | (exfalso; first | contradiction | (first | omega | (simp at *; done)); done) | skip))
    | ((with_reducible refine AD.on ?_); first
      | (refine AD.gskip rfl rfl rfl ?_; (conv => (arg 10; try tactic => exact nrm)))
      | ((first | refine AD.gn1 rfl rfl (by with_reducible rfl) rfl ?_ | refine AD.gn0 rfl rfl (by with_reducible rfl) rfl ?_); (conv => (arg 10; try tactic => exact nrm)))
      | ((first | ((with_reducible refine AD.k_move ?_); first | (refine AD.q rfl (OQ.move (by conv => lhs; whnf)) rfl rfl rfl ?_) | (refine AD.qc rfl rfl (by with_reducible rfl) (OQ.move (by conv => lhs; whnf)) rfl rfl rfl ?_)) | ((with_reducible refine AD.k_load ?_); first | refine AD.q rfl (OQ.loadN (ty := 28) (n := 2) rfl (by kernel_rfl) (by kernel_rfl) rfl) rfl rfl rfl ?_ | refine AD.qc rfl rfl (by with_reducible rfl) (OQ.loadN (ty := 28) (n := 2) rfl (by kernel_rfl) (by kernel_rfl) rfl) rfl rfl rfl ?_ | (refine AD.qc rfl rfl (by with_reducible rfl) (OQ.load1 (ty := 3) rfl (by kernel_rfl) (by conv => lhs; whnf)) rfl rfl rfl ?_) | (refine AD.qc rfl rfl (by with_reducible rfl) (OQ.load1 (ty := 22) rfl (by kernel_rfl) (by conv => lhs; whnf)) rfl rfl rfl ?_)) | ((with_reducible refine AD.k_binOp ?_); first | refine AD.q rfl (eql_t28 rfl rfl) rfl rfl rfl ?_ | refine AD.qc rfl rfl (by with_reducible rfl) (eql_t28 rfl rfl) rfl rfl rfl ?_ | refine AD.qc rfl rfl (by with_reducible rfl) (OQ.eql rfl rfl) rfl rfl rfl ?_ | refine AD.qc rfl rfl (by with_reducible rfl) (OQ.subi rfl rfl (by omega)) rfl rfl rfl ?_ | refine AD.qc rfl rfl (by with_reducible rfl) (OQ.sub rfl rfl) rfl rfl rfl ?_ | refine AD.qc rfl rfl (by with_reducible rfl) (OQ.muli rfl rfl (by omega)) rfl rfl rfl ?_ | refine AD.qc rfl rfl (by with_reducible rfl) (OQ.mul rfl rfl) rfl rfl rfl ?_) | ((with_reducible refine AD.k_assign ?_); first | (refine AD.q rfl (OQ.assign (by conv => lhs; whnf)) rfl rfl rfl ?_)) | ((with_reducible refine AD.k_indexAddr ?_); first | refine AD.q rfl (OQ.idxPtr (ty := 29) (n := 2) (l := 3) (g := true) rfl rfl (by kernel_rfl) (by omega) (by omega)) rfl rfl rfl ?_ | refine AD.qc rfl rfl (by with_reducible rfl) (OQ.idxPtr (ty := 29) (n := 2) (l := 3) (g := true) rfl rfl (by kernel_rfl) (by omega) (by omega)) rfl rfl rfl ?_ | refine AD.qc rfl rfl (by with_reducible rfl) (OQ.idxAddr (ty := 22) (z := 4) (g := true) rfl rfl (by kernel_rfl) (by omega) (by omega)) rfl rfl rfl ?_) | ((with_reducible refine AD.k_pick ?_); first | (refine AD.q rfl (OQ.pickT rfl (by with_reducible rfl) (by conv => lhs; whnf)) rfl rfl rfl ?_) | (refine AD.q rfl (OQ.pickF rfl (by with_reducible rfl) (by conv => lhs; whnf)) rfl rfl rfl ?_)) | ((with_reducible refine AD.k_fieldAddr ?_); first | refine AD.qc rfl rfl (by with_reducible rfl) (OQ.fieldA (ty := 28) (i := 1) (n := 1) (off := 1) (g := false) rfl (by kernel_rfl) (by decide)) rfl rfl rfl ?_ | refine AD.qc rfl rfl (by with_reducible rfl) (OQ.fieldA (ty := 28) (i := 0) (n := 1) (off := 0) (g := false) rfl (by kernel_rfl) (by decide)) rfl rfl rfl ?_ | refine AD.qc rfl rfl (by with_reducible rfl) (OQ.fieldA (ty := 24) (i := 1) (n := 1) (off := 1) (g := false) rfl (by kernel_rfl) (by decide)) rfl rfl rfl ?_ | refine AD.qc rfl rfl (by with_reducible rfl) (OQ.fieldA (ty := 85) (i := 2) (n := 1) (off := 2) (g := false) rfl (by kernel_rfl) (by decide)) rfl rfl rfl ?_)); (conv => (arg 10; try tactic => exact nrm)))
      | (refine AD.bs rfl (fun hc => ?_) (fun hc => ?_) <;> (fail_if_success (with_reducible exact lit_no hc)) <;> (try simp only [decide_eq_true_eq, decide_eq_false_iff_not, Bool.not_true, Bool.not_false, Bool.not_eq_true', Bool.not_eq_false', Int.not_lt, Int.not_le, Classical.not_not, ne_eq] at hc) <;> first | (exfalso; first | contradiction | (first | omega | (simp at *; done)); done) | (conv => (arg 10; try tactic => exact nrm)))
      | (refine AD.gs1 rfl rfl (fun hc => ?_) (fun hc => ?_) <;> (fail_if_success (with_reducible exact lit_no hc)) <;> (try simp only [decide_eq_true_eq, decide_eq_false_iff_not, Bool.not_true, Bool.not_false, Bool.not_eq_true', Bool.not_eq_false', Int.not_lt, Int.not_le, Classical.not_not, ne_eq] at hc) <;> first | (exfalso; first | contradiction | (first | omega | (simp at *; done)); done) | (conv => (arg 10; try tactic => exact nrm)))
      | (refine AD.gs0 rfl rfl (fun hc => ?_) (fun hc => ?_) <;> (fail_if_success (with_reducible exact lit_no hc)) <;> (try simp only [decide_eq_true_eq, decide_eq_false_iff_not, Bool.not_true, Bool.not_false, Bool.not_eq_true', Bool.not_eq_false', Int.not_lt, Int.not_le, Classical.not_not, ne_eq] at hc) <;> first | (exfalso; first | contradiction | (first | omega | (simp at *; done)); done) | (conv => (arg 10; try tactic => exact nrm)))
      | (refine AD.nil ?_; (conv => (arg 4; simp only [List.drop_succ_cons, List.drop_zero, List.drop_nil])); (conv => (arg 5; try tactic => exact nrm)); (conv => (arg 6; try tactic => exact nrm))))
    | ((with_reducible refine FinP.on ?_); (first | refine FinP.ret (.tmp (by conv => lhs; whnf) .nil) ?_ rfl | refine FinP.end (.tmp (by conv => lhs; whnf) .nil) ?_ rfl); (try simp only [pack, List.drop, List.take]); all_goals (rfl)))
theorem DaL_y {l L : List Ep} (nm : ByteArray) (hn : nm.size ≤ 1000) (hl : l.length ≤ 1000) (hf : fewS nm.size l.length = true) (hc : srE nm.data.toList l = 0) (e : Nat) (he : e < l.length) (hL : L.length = l.length) (hp : -16000 ≤ (ep l e).p ∧ (ep l e).p ≤ 16000)
    (H1 : ∀ (m : Mem) (i : Nat) (bk : Blk), m.at i = some bk → bk.cells = flatE l → ACalls Try.prog 52 [srI nm i l.length, .int .i64 e] m (.tuple #[srI nm m.length l.length, .int .i64 0]) (m ++ [some ⟨flatE L, true, 4⟩]))
    (H2 : ∀ (m : Mem) (i : Nat) (bk : Blk), m.at i = some bk → bk.cells = flatE l → ACalls Try.prog 53 [srI nm i l.length, .int .i64 e] m (.tuple #[srI nm m.length l.length, .int .i64 0]) (m ++ [some ⟨flatE L, true, 4⟩]))
    (x y p q s t g s' g' : Int)
    (H3 : ∀ (m : Mem) (i : Nat) (bk : Blk), m.at i = some bk → bk.cells = flatE l → PCalls Try.prog 17 [srI nm i l.length] m (.tuple #[.agg #[.int .i64 x, .int .i64 y, .int .i64 p, .int .i64 q, .int .i64 s, .int .i64 t], .int .i64 g]))
    (H4 : ∀ (m : Mem) (i : Nat) (bk : Blk), m.at i = some bk → bk.cells = flatE L → PCalls Try.prog 17 [srI nm i l.length] m (.tuple #[.agg #[.int .i64 x, .int .i64 y, .int .i64 p, .int .i64 q, .int .i64 s', .int .i64 t], .int .i64 g']))
    (hg : g = 0 ∧ g' = 0) (hs : s - s' = (ep l e).p * t ∧ (-1000000000 ≤ s ∧ s ≤ 1000000000) ∧ -1000000000 ≤ s' ∧ s' ≤ 1000000000) (z0 : Nat) :
    PCalls Try.prog 11 [srI nm 0 l.length, .int .i64 e] [some ⟨flatE l, false, z0⟩] (.bool true) := by
  have HA := awake_q
  have HF := fun (m : Mem) (v : Value) (hS : SlE m v l) => few_q nm hS (by omega) (by omega)
  rw [hf] at HF
  have HC := fun (m : Mem) (v : Value) (hS : SlE m v l) => rCheckSeries_q nm hS hn hl
  rw [hc] at HC
  have HY := fun (m : Mem) (v : Value) (hS : SlE m v l) => Copy_q nm hS hl
  have HX := fun (m : Mem) (a b : Nat) (k0 k1 : Blk) (h0 : m.at a = some k0) (h1 : m.at b = some k1) (hc0 : k0.cells = flatE L) (hc1 : k1.cells = flatE L) => Same_q nm L (by omega) hL h0 h1 hc0 hc1
  have q2 : (flatE l)[e * 4 + 2]? = some (.int .i64 (ep l e).p) := flatE_get l e 2 (by decide) he
  rw [hg.1] at H3
  rw [hg.2] at H4
  clear hg
  refine PCalls.enter (t := [srI nm 0 l.length, .int .i64 e, undef, undef, undef, undef, undef, undef, undef, undef, undef, undef, undef, undef, undef, undef, undef, undef, undef, undef, undef, undef, undef, undef, undef, undef, undef, undef, undef, undef, undef, undef, undef, undef, undef, undef, undef, undef, undef, undef, undef, undef, undef, undef, undef, undef, undef, undef, undef, undef, undef, undef, undef, undef, undef, undef, undef, undef, undef, undef, undef, undef, undef, undef, undef, undef, undef, undef, undef, undef, undef, undef, undef, undef, undef, undef, undef, undef, undef, undef, undef, undef, undef, undef, undef, undef, undef, undef, undef, undef, undef, undef, undef, undef, undef, undef, undef, undef, undef, undef, undef, undef, undef, undef, undef, undef, undef, undef, undef, undef, undef, undef, undef, undef, undef]) Try.func11 rfl (ro1 _ rfl) rfl fun E => ?_
  repeat' (first
    | with_reducible refine Then.n ?_
    | with_reducible refine Then.r ?_
    | with_reducible refine Then.x ?_
    | with_reducible refine InB.n ?_
    | with_reducible refine InB.r ?_
    | with_reducible refine InB.hit ?_
    | with_reducible refine InB.miss (by decide) ?_
    | ((with_reducible refine AL.on ?_); first
      | (refine AL.gd rfl ?_; first | (refine AL.gskip rfl rfl ?_; (conv => (arg 5; try tactic => exact nrm))) | (refine AL.gs1 rfl rfl (fun hc => ?_) (fun hc => ?_) <;> (try simp only [decide_eq_true_eq, decide_eq_false_iff_not, Bool.not_true, Bool.not_false, Bool.not_eq_true', Bool.not_eq_false', Int.not_lt, Int.not_le, Classical.not_not, ne_eq] at hc) <;> first | (exfalso; first | contradiction | (first | omega | (simp at *; done)); done) | (conv => (arg 5; try tactic => exact nrm))) | (refine AL.gs0 rfl rfl (fun hc => ?_) (fun hc => ?_) <;> (try simp only [decide_eq_true_eq, decide_eq_false_iff_not, Bool.not_true, Bool.not_false, Bool.not_eq_true', Bool.not_eq_false', Int.not_lt, Int.not_le, Classical.not_not, ne_eq] at hc) <;> first | (exfalso; first | contradiction | (first | omega | (simp at *; done)); done) | (conv => (arg 5; try tactic => exact nrm))))
      | ((first | ((with_reducible refine AL.k_move ?_); first | (refine AL.q rfl (OQ.move (by conv => lhs; whnf)) ?_)) | ((with_reducible refine AL.k_load ?_); first | refine AL.q rfl (OQ.loadN (ty := 24) (n := 2) rfl (by kernel_rfl) (by kernel_rfl) (by first | (first | exact q2) | rfl)) ?_) | ((with_reducible refine AL.k_binOp ?_); first | refine AL.q rfl (OQ.eql rfl rfl) ?_ | refine AL.q rfl (OQ.neq rfl rfl) ?_) | ((with_reducible refine AL.k_assign ?_); first | (refine AL.q rfl (OQ.assign (by conv => lhs; whnf)) ?_)) | ((with_reducible refine AL.k_extract ?_); first | refine AL.q rfl (OQ.extract rfl rfl) ?_) | ((with_reducible refine AL.k_pick ?_); first | (refine AL.q rfl (OQ.pickT rfl (by with_reducible rfl) (by conv => lhs; whnf)) ?_) | (refine AL.q rfl (OQ.pickF rfl (by with_reducible rfl) (by conv => lhs; whnf)) ?_)) | ((with_reducible refine AL.k_unOp ?_); first | refine AL.q rfl (OQ.not rfl) ?_)); (conv => (arg 5; try tactic => exact nrm)))
      | ((first | first | refine AL.pcall (g := 15) rfl (by kernel_rfl) rfl (HA _) ?_ | refine AL.pcall (g := 16) rfl (by kernel_rfl) rfl (HF _ _ (.blk 0 _ rfl rfl rfl)) ?_ | refine AL.pcall (g := 20) rfl (by kernel_rfl) rfl (HC _ _ (.blk 0 _ rfl rfl rfl)) ?_ | refine AL.pcall (g := 54) rfl (by kernel_rfl) rfl (HX _ _ _ _ _ rfl rfl rfl rfl) ?_ | refine AL.pcall (g := 17) rfl (by kernel_rfl) rfl ((by first | exact H3 _ _ _ rfl rfl | exact H4 _ _ _ rfl rfl)) ?_); (conv => (arg 5; try tactic => exact nrm)))
      | ((first | ((with_reducible refine AL.k_call ?_); first | refine AL.acall (g := 18) rfl (by kernel_rfl) rfl ((HY _ _ (.blk 0 _ rfl rfl rfl))) ?_ | refine AL.acall (g := 52) rfl (by kernel_rfl) rfl ((H1 _ _ _ rfl rfl)) ?_ | refine AL.acall (g := 53) rfl (by kernel_rfl) rfl ((H2 _ _ _ rfl rfl)) ?_) | ((with_reducible refine AL.k_alloc ?_); first | refine AL.w rfl (OW.alloc (ty := 24) (z := [.string ⟨#[]⟩, .slice none 0 0]) (by kernel_rfl) rfl) ?_ | refine AL.w rfl (OW.alloc (ty := 29) (z := [.int .i64 0, .int .i64 0, .int .i64 0, .int .i64 0, .int .i64 0, .int .i64 0]) (by kernel_rfl) rfl) ?_) | ((with_reducible refine AL.k_store ?_); first | (refine AL.w rfl (OW.store (ty := 24) (n := 2) rfl (by conv => lhs; whnf) rfl rfl (by kernel_rfl) rfl rfl (by decide) rfl (Nat.le_of_ble_eq_true rfl) (by intro r h; cases h)) ?_) | (refine AL.w rfl (OW.store (ty := 29) (n := 6) rfl (by conv => lhs; whnf) rfl rfl (by kernel_rfl) rfl rfl (by decide) rfl (Nat.le_of_ble_eq_true rfl) (by intro r h; cases h)) ?_)) | ((with_reducible refine AL.k_box ?_); first | (refine AL.w rfl (OW.box (by conv => lhs; whnf) (by intro r h; cases h)) ?_))); (conv => (arg 5; try tactic => exact nrm)); (conv => (arg 6; try tactic => exact nrm)))
      | (refine AL.bs rfl (fun hc => ?_) (fun hc => ?_) <;> (fail_if_success (with_reducible exact lit_no hc)) <;> (try simp only [decide_eq_true_eq, decide_eq_false_iff_not, Bool.not_true, Bool.not_false, Bool.not_eq_true', Bool.not_eq_false', Int.not_lt, Int.not_le, Classical.not_not, ne_eq] at hc) <;> first | (exfalso; first | contradiction | (first | omega | (simp at *; done)); done) | (conv => (arg 5; try tactic => exact nrm)))
      | refine AL.nil ?_)
    | ((with_reducible refine AW.on ?_); first
      | refine AW.seq ?_
      | refine AW.skip ?_
      | refine AW.exit ?_
      | refine AW.ret ?_
      | refine AW.block ?_
      | (refine AW.draw (id := 18) 42 #[0, 1, 0, 4, 15, 31, 63, 127, 63, 319, 1023, 2047, 4095, 8191, 16383, 32767, 8191, 73727, 204799, 524287, 1048575, 2097151, 4194303, 8388607, 16777215, 4194303, 37748735, 104857599, 268435455, 4194303, 541065215, 4194303, 3762290687, 8057257983, 16647192575, 4194303, 34363932671, 103083409407, 274345230335, 549755813887, 1099511627775, 2199023255551] (by kernel_rfl) (by kernel_rfl) ?_; (conv => (arg 8; simp only [List.take_succ_cons, List.take_zero])))
      | (refine AW.region (id := 2) ?_; exfalso; first | omega | (simp at *; done); done)
      | (refine AW.region (id := 4) ?_; exfalso; first | omega | (simp at *; done); done)
      | (refine AW.region (id := 11) ?_; exfalso; first | omega | (simp at *; done); done)
      | (refine AW.region (id := 13) ?_; exfalso; first | omega | (simp at *; done); done)
      | (refine AW.region (id := 17) ?_; exfalso; first | omega | (simp at *; done); done)
      | refine AW.region ?_
      | (refine AW.conds rfl (fun hc => ?_) (fun hc => ?_) <;> (try simp only [decide_eq_true_eq, decide_eq_false_iff_not, Bool.not_true, Bool.not_false, Bool.not_eq_true', Bool.not_eq_false', Int.not_lt, Int.not_le, Classical.not_not, ne_eq] at hc) <;> first | (exfalso; first | contradiction | (first | omega | (simp at *; done)); done) | skip))
    | ((with_reducible refine AD.on ?_); first
      | (refine AD.gskip rfl rfl rfl ?_; (conv => (arg 10; try tactic => exact nrm)))
      | ((first | refine AD.gn1 rfl rfl (by with_reducible rfl) rfl ?_ | refine AD.gn0 rfl rfl (by with_reducible rfl) rfl ?_); (conv => (arg 10; try tactic => exact nrm)))
      | ((first | ((with_reducible refine AD.k_move ?_); first | (refine AD.q rfl (OQ.move (by conv => lhs; whnf)) rfl rfl rfl ?_) | (refine AD.qc rfl rfl (by with_reducible rfl) (OQ.move (by conv => lhs; whnf)) rfl rfl rfl ?_)) | ((with_reducible refine AD.k_load ?_); first | refine AD.q rfl (OQ.loadN (ty := 28) (n := 2) rfl (by kernel_rfl) (by kernel_rfl) (by first | (first | exact q2) | rfl)) rfl rfl rfl ?_ | refine AD.qc rfl rfl (by with_reducible rfl) (OQ.loadN (ty := 28) (n := 2) rfl (by kernel_rfl) (by kernel_rfl) (by first | (first | exact q2) | rfl)) rfl rfl rfl ?_ | (refine AD.qc rfl rfl (by with_reducible rfl) (OQ.load1 (ty := 3) rfl (by kernel_rfl) (by first | (first | exact q2) | (conv => lhs; whnf))) rfl rfl rfl ?_) | (refine AD.qc rfl rfl (by with_reducible rfl) (OQ.load1 (ty := 22) rfl (by kernel_rfl) (by first | (first | exact q2) | (conv => lhs; whnf))) rfl rfl rfl ?_)) | ((with_reducible refine AD.k_binOp ?_); first | refine AD.q rfl (eql_t28 rfl rfl) rfl rfl rfl ?_ | refine AD.qc rfl rfl (by with_reducible rfl) (eql_t28 rfl rfl) rfl rfl rfl ?_ | refine AD.qc rfl rfl (by with_reducible rfl) (OQ.eql rfl rfl) rfl rfl rfl ?_ | refine AD.qc rfl rfl (by with_reducible rfl) (OQ.subi rfl rfl (by omega)) rfl rfl rfl ?_ | refine AD.qc rfl rfl (by with_reducible rfl) (OQ.sub rfl rfl) rfl rfl rfl ?_ | refine AD.qc rfl rfl (by with_reducible rfl) (OQ.muli rfl rfl (by omega)) rfl rfl rfl ?_ | refine AD.qc rfl rfl (by with_reducible rfl) (OQ.mul rfl rfl) rfl rfl rfl ?_) | ((with_reducible refine AD.k_assign ?_); first | (refine AD.q rfl (OQ.assign (by conv => lhs; whnf)) rfl rfl rfl ?_)) | ((with_reducible refine AD.k_pick ?_); first | (refine AD.q rfl (OQ.pickT rfl (by with_reducible rfl) (by conv => lhs; whnf)) rfl rfl rfl ?_) | (refine AD.q rfl (OQ.pickF rfl (by with_reducible rfl) (by conv => lhs; whnf)) rfl rfl rfl ?_))); (conv => (arg 10; try tactic => exact nrm)))
      | ((first | ((with_reducible refine AD.k_indexAddr ?_); first | refine AD.q rfl (OQ.idxPtr (ty := 29) (n := 2) (l := 3) (g := true) rfl rfl (by kernel_rfl) (by omega) (by omega)) rfl rfl rfl ?_ | refine AD.qc rfl rfl (by with_reducible rfl) (OQ.idxPtr (ty := 29) (n := 2) (l := 3) (g := true) rfl rfl (by kernel_rfl) (by omega) (by omega)) rfl rfl rfl ?_ | refine AD.qc rfl rfl (by with_reducible rfl) (OQ.idxAddr (ty := 22) (z := 4) (g := true) rfl rfl (by kernel_rfl) (by omega) (by omega)) rfl rfl rfl ?_) | ((with_reducible refine AD.k_fieldAddr ?_); first | refine AD.qc rfl rfl (by with_reducible rfl) (OQ.fieldA (ty := 28) (i := 1) (n := 1) (off := 1) (g := false) rfl (by kernel_rfl) (by decide)) rfl rfl rfl ?_ | refine AD.qc rfl rfl (by with_reducible rfl) (OQ.fieldA (ty := 28) (i := 0) (n := 1) (off := 0) (g := false) rfl (by kernel_rfl) (by decide)) rfl rfl rfl ?_ | refine AD.qc rfl rfl (by with_reducible rfl) (OQ.fieldA (ty := 24) (i := 1) (n := 1) (off := 1) (g := false) rfl (by kernel_rfl) (by decide)) rfl rfl rfl ?_ | refine AD.qc rfl rfl (by with_reducible rfl) (OQ.fieldA (ty := 85) (i := 2) (n := 1) (off := 2) (g := false) rfl (by kernel_rfl) (by decide)) rfl rfl rfl ?_)); (conv => (arg 10; try tactic => exact nrm)))
      | (refine AD.bs rfl (fun hc => ?_) (fun hc => ?_) <;> (fail_if_success (with_reducible exact lit_no hc)) <;> (try simp only [decide_eq_true_eq, decide_eq_false_iff_not, Bool.not_true, Bool.not_false, Bool.not_eq_true', Bool.not_eq_false', Int.not_lt, Int.not_le, Classical.not_not, ne_eq] at hc) <;> first | (exfalso; first | contradiction | (first | omega | (simp at *; done)); done) | (conv => (arg 10; try tactic => exact nrm)))
      | (refine AD.gs1 rfl rfl (fun hc => ?_) (fun hc => ?_) <;> (fail_if_success (with_reducible exact lit_no hc)) <;> (try simp only [decide_eq_true_eq, decide_eq_false_iff_not, Bool.not_true, Bool.not_false, Bool.not_eq_true', Bool.not_eq_false', Int.not_lt, Int.not_le, Classical.not_not, ne_eq] at hc) <;> first | (exfalso; first | contradiction | (first | omega | (simp at *; done)); done) | (conv => (arg 10; try tactic => exact nrm)))
      | (refine AD.gs0 rfl rfl (fun hc => ?_) (fun hc => ?_) <;> (fail_if_success (with_reducible exact lit_no hc)) <;> (try simp only [decide_eq_true_eq, decide_eq_false_iff_not, Bool.not_true, Bool.not_false, Bool.not_eq_true', Bool.not_eq_false', Int.not_lt, Int.not_le, Classical.not_not, ne_eq] at hc) <;> first | (exfalso; first | contradiction | (first | omega | (simp at *; done)); done) | (conv => (arg 10; try tactic => exact nrm)))
      | (refine AD.nil ?_; (conv => (arg 4; simp only [List.drop_succ_cons, List.drop_zero, List.drop_nil])); (conv => (arg 5; try tactic => exact nrm)); (conv => (arg 6; try tactic => exact nrm))))
    | ((with_reducible refine FinP.on ?_); (first | refine FinP.ret (.tmp (by conv => lhs; whnf) .nil) ?_ rfl | refine FinP.end (.tmp (by conv => lhs; whnf) .nil) ?_ rfl); (try simp only [pack, List.drop, List.take]); all_goals ((first | rfl | (congr 1; (first | exact decide_eq_true (by omega) | exact (decide_eq_true (by omega)).symm))))))
theorem DaL_z {l L : List Ep} (nm : ByteArray) (hn : nm.size ≤ 1000) (hl : l.length ≤ 1000) (hf : fewS nm.size l.length = true) (hc : srE nm.data.toList l = 0) (e : Nat) (he : e < l.length) (hL : L.length = l.length)
    (H1 : ∀ (m : Mem) (i : Nat) (bk : Blk), m.at i = some bk → bk.cells = flatE l → ACalls Try.prog 52 [srI nm i l.length, .int .i64 e] m (.tuple #[srI nm m.length l.length, .int .i64 0]) (m ++ [some ⟨flatE L, true, 4⟩]))
    (H2 : ∀ (m : Mem) (i : Nat) (bk : Blk), m.at i = some bk → bk.cells = flatE l → ACalls Try.prog 53 [srI nm i l.length, .int .i64 e] m (.tuple #[srI nm m.length l.length, .int .i64 0]) (m ++ [some ⟨flatE L, true, 4⟩]))
    (v v' : Value) (g g' : Int) (hv : ∃ x y p q s t : Int, v = .agg #[.int .i64 x, .int .i64 y, .int .i64 p, .int .i64 q, .int .i64 s, .int .i64 t]) (hv' : ∃ x y p q s t : Int, v' = .agg #[.int .i64 x, .int .i64 y, .int .i64 p, .int .i64 q, .int .i64 s, .int .i64 t])
    (H3 : ∀ (m : Mem) (i : Nat) (bk : Blk), m.at i = some bk → bk.cells = flatE l → PCalls Try.prog 17 [srI nm i l.length] m (.tuple #[v, .int .i64 g]))
    (H4 : ∀ (m : Mem) (i : Nat) (bk : Blk), m.at i = some bk → bk.cells = flatE L → PCalls Try.prog 17 [srI nm i l.length] m (.tuple #[v', .int .i64 g']))
    (hg : (g ≠ 0 ∨ g' ≠ 0) ∧ (g = g' ∨ g = 8 ∨ g' = 8)) (z0 : Nat) :
    PCalls Try.prog 11 [srI nm 0 l.length, .int .i64 e] [some ⟨flatE l, false, z0⟩] (.bool true) := by
  have HA := awake_q
  have HF := fun (m : Mem) (v : Value) (hS : SlE m v l) => few_q nm hS (by omega) (by omega)
  rw [hf] at HF
  have HC := fun (m : Mem) (v : Value) (hS : SlE m v l) => rCheckSeries_q nm hS hn hl
  rw [hc] at HC
  have HY := fun (m : Mem) (v : Value) (hS : SlE m v l) => Copy_q nm hS hl
  have HX := fun (m : Mem) (a b : Nat) (k0 k1 : Blk) (h0 : m.at a = some k0) (h1 : m.at b = some k1) (hc0 : k0.cells = flatE L) (hc1 : k1.cells = flatE L) => Same_q nm L (by omega) hL h0 h1 hc0 hc1
  obtain ⟨x, y, p, q, s, t, rfl⟩ := hv
  obtain ⟨x', y', p', q', s', t', rfl⟩ := hv'
  refine PCalls.enter (t := [srI nm 0 l.length, .int .i64 e, undef, undef, undef, undef, undef, undef, undef, undef, undef, undef, undef, undef, undef, undef, undef, undef, undef, undef, undef, undef, undef, undef, undef, undef, undef, undef, undef, undef, undef, undef, undef, undef, undef, undef, undef, undef, undef, undef, undef, undef, undef, undef, undef, undef, undef, undef, undef, undef, undef, undef, undef, undef, undef, undef, undef, undef, undef, undef, undef, undef, undef, undef, undef, undef, undef, undef, undef, undef, undef, undef, undef, undef, undef, undef, undef, undef, undef, undef, undef, undef, undef, undef, undef, undef, undef, undef, undef, undef, undef, undef, undef, undef, undef, undef, undef, undef, undef, undef, undef, undef, undef, undef, undef, undef, undef, undef, undef, undef, undef, undef, undef, undef, undef]) Try.func11 rfl (ro1 _ rfl) rfl fun E => ?_
  repeat' (first
    | with_reducible refine Then.n ?_
    | with_reducible refine Then.r ?_
    | with_reducible refine Then.x ?_
    | with_reducible refine InB.n ?_
    | with_reducible refine InB.r ?_
    | with_reducible refine InB.hit ?_
    | with_reducible refine InB.miss (by decide) ?_
    | ((with_reducible refine AL.on ?_); first
      | (refine AL.gd rfl ?_; first | (refine AL.gskip rfl rfl ?_; (conv => (arg 5; try tactic => exact nrm))) | (refine AL.gs1 rfl rfl (fun hc => ?_) (fun hc => ?_) <;> (try simp only [decide_eq_true_eq, decide_eq_false_iff_not, Bool.not_true, Bool.not_false, Bool.not_eq_true', Bool.not_eq_false', Int.not_lt, Int.not_le, Classical.not_not, ne_eq] at hc) <;> first | (exfalso; first | contradiction | (first | omega | (simp at *; done)); done) | (conv => (arg 5; try tactic => exact nrm))) | (refine AL.gs0 rfl rfl (fun hc => ?_) (fun hc => ?_) <;> (try simp only [decide_eq_true_eq, decide_eq_false_iff_not, Bool.not_true, Bool.not_false, Bool.not_eq_true', Bool.not_eq_false', Int.not_lt, Int.not_le, Classical.not_not, ne_eq] at hc) <;> first | (exfalso; first | contradiction | (first | omega | (simp at *; done)); done) | (conv => (arg 5; try tactic => exact nrm))))
      | ((first | ((with_reducible refine AL.k_move ?_); first | (refine AL.q rfl (OQ.move (by conv => lhs; whnf)) ?_)) | ((with_reducible refine AL.k_load ?_); first | refine AL.q rfl (OQ.loadN (ty := 24) (n := 2) rfl (by kernel_rfl) (by kernel_rfl) rfl) ?_) | ((with_reducible refine AL.k_binOp ?_); first | refine AL.q rfl (OQ.eql rfl rfl) ?_ | refine AL.q rfl (OQ.neq rfl rfl) ?_) | ((with_reducible refine AL.k_assign ?_); first | (refine AL.q rfl (OQ.assign (by conv => lhs; whnf)) ?_)) | ((with_reducible refine AL.k_extract ?_); first | refine AL.q rfl (OQ.extract rfl rfl) ?_) | ((with_reducible refine AL.k_pick ?_); first | (refine AL.q rfl (OQ.pickT rfl (by with_reducible rfl) (by conv => lhs; whnf)) ?_) | (refine AL.q rfl (OQ.pickF rfl (by with_reducible rfl) (by conv => lhs; whnf)) ?_)) | ((with_reducible refine AL.k_unOp ?_); first | refine AL.q rfl (OQ.not rfl) ?_)); (conv => (arg 5; try tactic => exact nrm)))
      | ((first | first | refine AL.pcall (g := 15) rfl (by kernel_rfl) rfl (HA _) ?_ | refine AL.pcall (g := 16) rfl (by kernel_rfl) rfl (HF _ _ (.blk 0 _ rfl rfl rfl)) ?_ | refine AL.pcall (g := 20) rfl (by kernel_rfl) rfl (HC _ _ (.blk 0 _ rfl rfl rfl)) ?_ | refine AL.pcall (g := 54) rfl (by kernel_rfl) rfl (HX _ _ _ _ _ rfl rfl rfl rfl) ?_ | refine AL.pcall (g := 17) rfl (by kernel_rfl) rfl ((by first | exact H3 _ _ _ rfl rfl | exact H4 _ _ _ rfl rfl)) ?_); (conv => (arg 5; try tactic => exact nrm)))
      | ((first | ((with_reducible refine AL.k_call ?_); first | refine AL.acall (g := 18) rfl (by kernel_rfl) rfl ((HY _ _ (.blk 0 _ rfl rfl rfl))) ?_ | refine AL.acall (g := 52) rfl (by kernel_rfl) rfl ((H1 _ _ _ rfl rfl)) ?_ | refine AL.acall (g := 53) rfl (by kernel_rfl) rfl ((H2 _ _ _ rfl rfl)) ?_) | ((with_reducible refine AL.k_alloc ?_); first | refine AL.w rfl (OW.alloc (ty := 24) (z := [.string ⟨#[]⟩, .slice none 0 0]) (by kernel_rfl) rfl) ?_ | refine AL.w rfl (OW.alloc (ty := 29) (z := [.int .i64 0, .int .i64 0, .int .i64 0, .int .i64 0, .int .i64 0, .int .i64 0]) (by kernel_rfl) rfl) ?_) | ((with_reducible refine AL.k_store ?_); first | (refine AL.w rfl (OW.store (ty := 24) (n := 2) rfl (by conv => lhs; whnf) rfl rfl (by kernel_rfl) rfl rfl (by decide) rfl (Nat.le_of_ble_eq_true rfl) (by intro r h; cases h)) ?_) | (refine AL.w rfl (OW.store (ty := 29) (n := 6) rfl (by conv => lhs; whnf) rfl rfl (by kernel_rfl) rfl rfl (by decide) rfl (Nat.le_of_ble_eq_true rfl) (by intro r h; cases h)) ?_)) | ((with_reducible refine AL.k_box ?_); first | (refine AL.w rfl (OW.box (by conv => lhs; whnf) (by intro r h; cases h)) ?_))); (conv => (arg 5; try tactic => exact nrm)); (conv => (arg 6; try tactic => exact nrm)))
      | (refine AL.bs rfl (fun hc => ?_) (fun hc => ?_) <;> (fail_if_success (with_reducible exact lit_no hc)) <;> (try simp only [decide_eq_true_eq, decide_eq_false_iff_not, Bool.not_true, Bool.not_false, Bool.not_eq_true', Bool.not_eq_false', Int.not_lt, Int.not_le, Classical.not_not, ne_eq] at hc) <;> first | (exfalso; first | contradiction | (first | omega | (simp at *; done)); done) | (conv => (arg 5; try tactic => exact nrm)))
      | refine AL.nil ?_)
    | ((with_reducible refine AW.on ?_); first
      | refine AW.seq ?_
      | refine AW.skip ?_
      | refine AW.exit ?_
      | refine AW.ret ?_
      | refine AW.block ?_
      | (refine AW.draw (id := 18) 42 #[0, 1, 0, 4, 15, 31, 63, 127, 63, 319, 1023, 2047, 4095, 8191, 16383, 32767, 8191, 73727, 204799, 524287, 1048575, 2097151, 4194303, 8388607, 16777215, 4194303, 37748735, 104857599, 268435455, 4194303, 541065215, 4194303, 3762290687, 8057257983, 16647192575, 4194303, 34363932671, 103083409407, 274345230335, 549755813887, 1099511627775, 2199023255551] (by kernel_rfl) (by kernel_rfl) ?_; (conv => (arg 8; simp only [List.take_succ_cons, List.take_zero])))
      | (refine AW.region (id := 2) ?_; exfalso; first | omega | (simp at *; done); done)
      | (refine AW.region (id := 4) ?_; exfalso; first | omega | (simp at *; done); done)
      | (refine AW.region (id := 11) ?_; exfalso; first | omega | (simp at *; done); done)
      | (refine AW.region (id := 13) ?_; exfalso; first | omega | (simp at *; done); done)
      | refine AW.region ?_
      | (refine AW.conds rfl (fun hc => ?_) (fun hc => ?_) <;> (try simp only [decide_eq_true_eq, decide_eq_false_iff_not, Bool.not_true, Bool.not_false, Bool.not_eq_true', Bool.not_eq_false', Int.not_lt, Int.not_le, Classical.not_not, ne_eq] at hc) <;> first | (exfalso; first | contradiction | (first | omega | (simp at *; done)); done) | skip))
    | ((with_reducible refine AD.on ?_); first
      | (refine AD.gskip rfl rfl rfl ?_; (conv => (arg 10; try tactic => exact nrm)))
      | ((first | refine AD.gn1 rfl rfl (by with_reducible rfl) rfl ?_ | refine AD.gn0 rfl rfl (by with_reducible rfl) rfl ?_); (conv => (arg 10; try tactic => exact nrm)))
      | ((first | ((with_reducible refine AD.k_move ?_); first | (refine AD.q rfl (OQ.move (by conv => lhs; whnf)) rfl rfl rfl ?_) | (refine AD.qc rfl rfl (by with_reducible rfl) (OQ.move (by conv => lhs; whnf)) rfl rfl rfl ?_)) | ((with_reducible refine AD.k_load ?_); first | refine AD.q rfl (OQ.loadN (ty := 28) (n := 2) rfl (by kernel_rfl) (by kernel_rfl) rfl) rfl rfl rfl ?_ | refine AD.qc rfl rfl (by with_reducible rfl) (OQ.loadN (ty := 28) (n := 2) rfl (by kernel_rfl) (by kernel_rfl) rfl) rfl rfl rfl ?_ | (refine AD.qc rfl rfl (by with_reducible rfl) (OQ.load1 (ty := 3) rfl (by kernel_rfl) (by conv => lhs; whnf)) rfl rfl rfl ?_) | (refine AD.qc rfl rfl (by with_reducible rfl) (OQ.load1 (ty := 22) rfl (by kernel_rfl) (by conv => lhs; whnf)) rfl rfl rfl ?_)) | ((with_reducible refine AD.k_binOp ?_); first | refine AD.q rfl (eql_t28 rfl rfl) rfl rfl rfl ?_ | refine AD.qc rfl rfl (by with_reducible rfl) (eql_t28 rfl rfl) rfl rfl rfl ?_ | refine AD.qc rfl rfl (by with_reducible rfl) (OQ.eql rfl rfl) rfl rfl rfl ?_ | refine AD.qc rfl rfl (by with_reducible rfl) (OQ.subi rfl rfl (by omega)) rfl rfl rfl ?_ | refine AD.qc rfl rfl (by with_reducible rfl) (OQ.sub rfl rfl) rfl rfl rfl ?_ | refine AD.qc rfl rfl (by with_reducible rfl) (OQ.muli rfl rfl (by omega)) rfl rfl rfl ?_ | refine AD.qc rfl rfl (by with_reducible rfl) (OQ.mul rfl rfl) rfl rfl rfl ?_) | ((with_reducible refine AD.k_assign ?_); first | (refine AD.q rfl (OQ.assign (by conv => lhs; whnf)) rfl rfl rfl ?_)) | ((with_reducible refine AD.k_indexAddr ?_); first | refine AD.q rfl (OQ.idxPtr (ty := 29) (n := 2) (l := 3) (g := true) rfl rfl (by kernel_rfl) (by omega) (by omega)) rfl rfl rfl ?_ | refine AD.qc rfl rfl (by with_reducible rfl) (OQ.idxPtr (ty := 29) (n := 2) (l := 3) (g := true) rfl rfl (by kernel_rfl) (by omega) (by omega)) rfl rfl rfl ?_ | refine AD.qc rfl rfl (by with_reducible rfl) (OQ.idxAddr (ty := 22) (z := 4) (g := true) rfl rfl (by kernel_rfl) (by omega) (by omega)) rfl rfl rfl ?_) | ((with_reducible refine AD.k_pick ?_); first | (refine AD.q rfl (OQ.pickT rfl (by with_reducible rfl) (by conv => lhs; whnf)) rfl rfl rfl ?_) | (refine AD.q rfl (OQ.pickF rfl (by with_reducible rfl) (by conv => lhs; whnf)) rfl rfl rfl ?_)) | ((with_reducible refine AD.k_fieldAddr ?_); first | refine AD.qc rfl rfl (by with_reducible rfl) (OQ.fieldA (ty := 28) (i := 1) (n := 1) (off := 1) (g := false) rfl (by kernel_rfl) (by decide)) rfl rfl rfl ?_ | refine AD.qc rfl rfl (by with_reducible rfl) (OQ.fieldA (ty := 28) (i := 0) (n := 1) (off := 0) (g := false) rfl (by kernel_rfl) (by decide)) rfl rfl rfl ?_ | refine AD.qc rfl rfl (by with_reducible rfl) (OQ.fieldA (ty := 24) (i := 1) (n := 1) (off := 1) (g := false) rfl (by kernel_rfl) (by decide)) rfl rfl rfl ?_ | refine AD.qc rfl rfl (by with_reducible rfl) (OQ.fieldA (ty := 85) (i := 2) (n := 1) (off := 2) (g := false) rfl (by kernel_rfl) (by decide)) rfl rfl rfl ?_)); (conv => (arg 10; try tactic => exact nrm)))
      | (refine AD.bs rfl (fun hc => ?_) (fun hc => ?_) <;> (fail_if_success (with_reducible exact lit_no hc)) <;> (try simp only [decide_eq_true_eq, decide_eq_false_iff_not, Bool.not_true, Bool.not_false, Bool.not_eq_true', Bool.not_eq_false', Int.not_lt, Int.not_le, Classical.not_not, ne_eq] at hc) <;> first | (exfalso; first | contradiction | (first | omega | (simp at *; done)); done) | (conv => (arg 10; try tactic => exact nrm)))
      | (refine AD.gs1 rfl rfl (fun hc => ?_) (fun hc => ?_) <;> (fail_if_success (with_reducible exact lit_no hc)) <;> (try simp only [decide_eq_true_eq, decide_eq_false_iff_not, Bool.not_true, Bool.not_false, Bool.not_eq_true', Bool.not_eq_false', Int.not_lt, Int.not_le, Classical.not_not, ne_eq] at hc) <;> first | (exfalso; first | contradiction | (first | omega | (simp at *; done)); done) | (conv => (arg 10; try tactic => exact nrm)))
      | (refine AD.gs0 rfl rfl (fun hc => ?_) (fun hc => ?_) <;> (fail_if_success (with_reducible exact lit_no hc)) <;> (try simp only [decide_eq_true_eq, decide_eq_false_iff_not, Bool.not_true, Bool.not_false, Bool.not_eq_true', Bool.not_eq_false', Int.not_lt, Int.not_le, Classical.not_not, ne_eq] at hc) <;> first | (exfalso; first | contradiction | (first | omega | (simp at *; done)); done) | (conv => (arg 10; try tactic => exact nrm)))
      | (refine AD.nil ?_; (conv => (arg 4; simp only [List.drop_succ_cons, List.drop_zero, List.drop_nil])); (conv => (arg 5; try tactic => exact nrm)); (conv => (arg 6; try tactic => exact nrm))))
    | ((with_reducible refine FinP.on ?_); (first | refine FinP.ret (.tmp (by conv => lhs; whnf) .nil) ?_ rfl | refine FinP.end (.tmp (by conv => lhs; whnf) .nil) ?_ rfl); (try simp only [pack, List.drop, List.take]); all_goals ((first | rfl | (congr 1; (first | exact decide_eq_true (by omega) | exact (decide_eq_true (by omega)).symm))))))
theorem sl_form6 (N : Nm) : ∃ a b c d e f : Int, slV N = .agg #[.int .i64 a, .int .i64 b, .int .i64 c, .int .i64 d, .int .i64 e, .int .i64 f] := by
  unfold slV thV
  split
  · exact ⟨0, 0, 0, 0, 0, 0, rfl⟩
  · split
    · exact ⟨_, _, _, _, _, _, rfl⟩
    · exact ⟨0, 0, 0, 0, 0, 0, rfl⟩
theorem DaL_r {l : List Ep} (nm : ByteArray) (hn : nm.size ≤ 1000) (hl : l.length ≤ 1000) (hf : fewS nm.size l.length = true) (hR : SRight l) (hN : nameB nm.data.toList = true) (hc : srE nm.data.toList l = 0) (d : Int) (z0 : Nat) :
    PCalls Try.prog 11 [srI nm 0 l.length, .int .i64 d] [some ⟨flatE l, false, z0⟩] (.bool true) := by
  have hn1 := hR.n1
  have hn2 := hR.n20
  cases hb : rngB d 0 (l.length - 1) with
  | false =>
    exact DaL_0 nm hn hl hf hc d 6 (by decide)
      (fun m i k h1 h2 => PCalls.via1 (args0 := [srI nm 0 l.length, .int .i64 d]) (fun z => Datum_m hn hR hN d hb z) h1 h2 (flatE_scal l) rfl rfl rfl rfl)
      (fun m i k h1 h2 => PCalls.via1 (args0 := [srI nm 0 l.length, .int .i64 d]) (fun z => rDatum_m nm hR d hb z) h1 h2 (flatE_scal l) rfl rfl rfl rfl) z0
  | true =>
    rw [rngB_true] at hb
    obtain ⟨e, rfl⟩ := Int.eq_ofNat_of_zero_le hb.1
    have he : e < l.length := by omega
    rcases srE_dt hR hN e he with ⟨h1, h2⟩ | ⟨h1, j, h2, h3⟩
    · have hL := dtL_len l e l.length
      obtain ⟨f0, f1, f2, f3⟩ := fit_dt l e hn1
      have hR' := (srE_right h1).1
      have H1 := fun (m : Mem) (i : Nat) (k : Blk) (g1 : m.at i = some k) (g2 : k.cells = flatE l) => ACalls.viaS [i] [] [some ⟨flatE (dtL l e l.length), true, 4⟩] (Datum_y hn hR hN e he _ h1 k.esz rfl) (m := m) (args := [srI nm i l.length, .int .i64 e]) (v := .tuple #[srI nm m.length l.length, .int .i64 0])
        ⟨⟨k, g1, rfl, (fun h => nomatch h), .inl ⟨g2, flatE_scal l⟩⟩, trivial⟩ (by simp) ⟨⟨_, rfl, rfl⟩, ⟨rfl, rfl, rfl, .inl ⟨rfl, flatE_scal _⟩⟩, trivial⟩ rfl rfl (by simp [rn3, rn2, rn1, τn]) rfl
      have H2 := fun (m : Mem) (i : Nat) (k : Blk) (g1 : m.at i = some k) (g2 : k.cells = flatE l) => ACalls.viaS [i] [] [some ⟨flatE (dtL l e l.length), true, 4⟩] (rDatum_y nm hR e he h2 k.esz) (m := m) (args := [srI nm i l.length, .int .i64 e]) (v := .tuple #[srI nm m.length l.length, .int .i64 0])
        ⟨⟨k, g1, rfl, (fun h => nomatch h), .inl ⟨g2, flatE_scal l⟩⟩, trivial⟩ (by simp) ⟨⟨_, rfl, rfl⟩, ⟨rfl, rfl, rfl, .inl ⟨rfl, flatE_scal _⟩⟩, trivial⟩ rfl rfl (by simp [rn3, rn2, rn1, τn]) rfl
      have H3 := fun (m : Mem) (i : Nat) (bk : Blk) (g1 : m.at i = some bk) (g2 : bk.cells = flatE l) => Solve_q (l := l) (nm := nm) hn hR hN g1 g2 rfl
      have H4 := fun (m : Mem) (i : Nat) (bk : Blk) (g1 : m.at i = some bk) (g2 : bk.cells = flatE (dtL l e l.length)) => Solve_q (l := dtL l e l.length) (nm := nm) hn hR' hN g1 g2 hL
      by_cases h0 : (NM l).det = 0
      · exact DaL_z nm hn hl hf hc e he hL H1 H2 _ _ _ _ (sl_form6 _) (sl_form6 _) H3 H4 (by simp [slE, f0, h0]) z0
      · have h0' : (NM (dtL l e l.length)).det ≠ 0 := by rw [f0]; exact h0
        cases ha : allSm (NM l).det [fitF (NM l) 0, fitF (NM l) 1, fitF (NM l) 2] with
        | false => exact DaL_z nm hn hl hf hc e he hL H1 H2 _ _ _ _ (sl_form6 _) (sl_form6 _) H3 H4 (by simp [slE, thE, h0, ha]) z0
        | true =>
          cases hb : allSm (NM (dtL l e l.length)).det [fitF (NM (dtL l e l.length)) 0, fitF (NM (dtL l e l.length)) 1, fitF (NM (dtL l e l.length)) 2] with
          | false => exact DaL_z nm hn hl hf hc e he hL H1 H2 _ _ _ _ (sl_form6 _) (sl_form6 _) H3 H4 (by simp [slE, thE, h0', hb]) z0
          | true =>
            have hv : slV (NM l) = .agg #[.int .i64 (frN (fitF (NM l) 0) (NM l).det), .int .i64 (frD (fitF (NM l) 0) (NM l).det), .int .i64 (frN (fitF (NM l) 1) (NM l).det), .int .i64 (frD (fitF (NM l) 1) (NM l).det), .int .i64 (frN (fitF (NM l) 2) (NM l).det), .int .i64 (frD (fitF (NM l) 2) (NM l).det)] := by simp [slV, thV, h0, ha]
            have hv' : slV (NM (dtL l e l.length)) = .agg #[.int .i64 (frN (fitF (NM l) 0) (NM l).det), .int .i64 (frD (fitF (NM l) 0) (NM l).det), .int .i64 (frN (fitF (NM l) 1) (NM l).det), .int .i64 (frD (fitF (NM l) 1) (NM l).det), .int .i64 (frN (fitF (NM l) 2 - (ep l e).p * (NM l).det) (NM l).det), .int .i64 (frD (fitF (NM l) 2) (NM l).det)] := by
              rw [← (fr_less (P := fitF (NM l) 2) (c := (ep l e).p) h0).1, ← f0, ← f1, ← f2]
              have : fitF (NM l) 2 - (ep l e).p * (NM (dtL l e l.length)).det = fitF (NM (dtL l e l.length)) 2 := by rw [f0, f3]
              rw [this]
              simp [slV, thV, h0', hb]
            rw [hv] at H3
            rw [hv'] at H4
            have hbe := hR.bd e he
            have k1 := List.all_eq_true.1 ha (fitF (NM l) 2) (by simp)
            have k2 := List.all_eq_true.1 hb (fitF (NM (dtL l e l.length)) 2) (by simp)
            simp only [frSm, Bool.and_eq_true, rngB_true] at k1 k2
            rw [f0, f3] at k2
            exact DaL_y nm hn hl hf hc e he hL hbe.2.2.1 H1 H2 _ _ _ _ _ _ _ _ _ H3 H4 ⟨by simp [slE, thE, h0, ha], by simp [slE, thE, h0', hb]⟩ ⟨(fr_less h0).2, k1.1, k2.1⟩ z0
    · exact DaL_0 nm hn hl hf hc e 8 (by decide)
        (fun m i k g1 g2 => PCalls.via1 (args0 := [srI nm 0 l.length, .int .i64 e]) (fun z => ACalls.still (Datum_n hn hR hN e he _ rfl z h1) (ro1 _ rfl) rfl) g1 g2 (flatE_scal l) rfl rfl rfl rfl)
        (fun m i k g1 g2 => PCalls.via1 (args0 := [srI nm 0 l.length, .int .i64 e]) (fun z => ACalls.still (rDatum_n nm hR e he j h2 h3 z) (ro1 _ rfl) rfl) g1 g2 (flatE_scal l) rfl rfl rfl rfl) z0
theorem DaL_q {v : Value} {m0 : Mem} {l : List Ep} (nm : ByteArray) (h : Sh l v m0) (hn : (nm.size : Int) ≤ 9223372036854775807) (hl : (l.length : Int) ≤ 9223372036854775807) (d : Int) : PCalls Try.prog 11 [srV nm v, .int .i64 d] m0 (.bool true) := by
  cases hf : fewS nm.size l.length with
  | false => exact DaL_n nm h hn hl hf d
  | true =>
    have hb := of_decide_eq_true hf
    by_cases hc : srE nm.data.toList l = 0
    · have hr := srE_right hc
      have hn1 := hr.1.n1
      rcases h with ⟨rfl, rfl, h3⟩ | ⟨rfl, rfl, h3⟩ | ⟨z0, rfl, rfl⟩
      · rw [h3] at hn1; exact absurd hn1 (by decide)
      · rw [h3] at hn1; exact absurd hn1 (by decide)
      · exact DaL_r nm (by omega) (by omega) hf hr.1 hr.2 hc d z0
    · exact DaL_e nm h (by omega) (by omega) hf _ rfl hc d
end Go.Proofs.Ytnocdnhhlppahaa
end

section
namespace Go.Proofs.Ytnocdnhhlppahaa.SeriesDatums
open Go.ChangeShapes Go.WideShapes Go.ChangeAt Go Go.RowKit Go.Ab Go.Sr Go.Proofs.Ytnocdnhhlppahaa
set_option maxRecDepth 100000
theorem walk {W : World} (nm : ByteArray) (a : Option Addr) (l : List Ep) (cap : Nat) (hnm : nm.size ≤ maxLen) (hcap : l.length ≤ cap) (hcm : cap ≤ maxLen) (hS : SlX W a (flatE l)) (hz : a = none → cap = 0) (d : Int) : Calls Try.prog 11 #[.agg #[.string nm, .slice a l.length cap], .int .i64 d] W fun e w' => e = .returned (.bool true) ∧ Below W.heap.size W w' := by
  refine glueS (us := [.int .i64 d]) rfl hS hcap hz fun v m0 h => DaL_q nm h ?_ ?_ d
  · simp only [maxLen] at hnm; omega
  · simp only [maxLen] at hcm; omega

set_option maxRecDepth 100000 in
theorem lifted (os : Os) (started : os.Started) (H : Type) (enc : TypeId × Value → H) :
    ReturnsInHanded {} Try.checked os 11 .any (Rows.seriesDatumsSpec.pre6 enc Try.prog Try.f11 Rows.seriesDatumsRow.domain false) (Rows.seriesDatumsSpec.post enc Try.prog Try.f11 false true false false) := by
  refine returnsInHanded_of_change (C := Try.checked) own started (by kernel_rfl) Try.func11
    (ChangeSpec.witness6 (enc := enc) (C := Try.checked) false ⟨#[], #[.agg #[.string ⟨#[]⟩, .slice none 0 0], .int .i64 0], []⟩ 8 (by kernel_rfl) (by kernel_rfl) (by kernel_rfl) (by kernel_rfl)) ?_
  intro W base args ds gs before hval0 hW hcnd _
  have hval : ∀ (j : Nat) t v, Try.f11.params[j]? = some t → args[j]? = some v → Value.okWide Try.prog W .any base t v := hval0
  have hW' := hW
  obtain ⟨p, q, hA0, hV, rfl, hfz, hnd⟩ := hW
  have hA : DataW.TrodAll enc Try.prog W 0 (fun _ => true) true Try.f11.params.toList args.toList ds p := hA0
  rw [Try.params11] at hA hval
  obtain ⟨v0, vs0, d0, ds0, p0, q0, hargs, rfl, rfl, h0, r0⟩ := trodAll_cons hA
  obtain ⟨v1, vs1, d1, ds1, p1, q1, rfl, rfl, rfl, h1, r1⟩ := trodAll_cons r0
  obtain ⟨rfl, rfl, rfl⟩ := trodAll_nil r1
  obtain rfl : args = #[v0, v1] := by cases args; simp_all
  obtain ⟨rfl, rfl⟩ := trodVars_none hV
  clear hA0 hval0
  have hlt := hW'.lt
  have g0 := h0
  have g1 := h1
  obtain ⟨nm0, a0, l0, cap0, rfl, hnm0, hcap0, hcm0, hS0, hz0⟩ := open_S (hval 0 24 v0 rfl rfl) h0
  obtain ⟨x1, rfl, -, -, wx1⟩ := open_int Try.underlying3 (hval 1 3 v1 rfl rfl) h1
  simp only [List.append_nil] at hW' hlt ⊢
  refine (walk nm0 a0 l0 cap0 hnm0 hcap0 hcm0 hS0 hz0 x1).mono fun e W' ⟨he, hb⟩ => ?_
  subst he
  have stay : ∀ (t : TypeId) v d ps (sp : Nat → Bool), Try.prog.readableRec t = true → t < Try.prog.types.size → DataW.Trod enc Try.prog W 0 (fun _ => true) true t v d ps → (∀ x ∈ ps, x.block < W.heap.size) → (∀ x ∈ ps, sp x.block = true) → DataW.Trod enc Try.prog W' 0 sp true t v d ps :=
    fun t v d ps sp hr ht h hx hs => Go.WideElems.Trod_stays laid hr ht h (fun x hxp => hb.same (hx x hxp)) hs
  exact ⟨_, rfl, post_below (pa := p0 ++ (p1 ++ [])) (pv := []) hW' (fun _ _ _ => trodAll_mk1 (shut_bool Try.underlying4 true)) (fun sp hs => (trodAll_cons_mk (stay 24 _ _ _ sp (by kernel_rfl) (of_decide_eq_true (by kernel_rfl)) g0 (fun x hx => hlt x (by simp [hx])) (fun x hx => hs x (by simp [hx]))) (trodAll_cons_mk (stay 3 _ _ _ sp (by kernel_rfl) (of_decide_eq_true (by kernel_rfl)) g1 (fun x hx => hlt x (by simp [hx])) (fun x hx => hs x (by simp [hx]))) (trodAll_mk0)))) (fun _ _ => rfl) (by simp)
    hb (ok_one (by kernel_rfl) rfl (okWide_bool_mk Try.underlying4 true))⟩

theorem over : Rows.seriesDatumsRow.holds Try.pinned (OpenSpec.ofChange Rows.seriesDatumsSpec) :=
  OpenClaim.holds_of_wide 11 Try.f11 rfl rfl rfl rfl rfl rfl rfl ⟨rfl, rfl, rfl, rfl, rfl⟩ rfl rfl rfl rfl rfl (by kernel_rfl) Try.func11 (by kernel_rfl)
    (of_decide_eq_true (by kernel_rfl)) (by unfold Func.isWrapper; first | (rw [if_pos (by decide +kernel)]; kernel_rfl) | (rw [if_neg (by decide +kernel)]; exact ⟨rfl, rfl⟩))
    (fun os started H enc _ => lifted os started H enc)

/-- The statement. -/
theorem proved : Rows.SeriesDatumsSaid := over
#print axioms proved
end Go.Proofs.Ytnocdnhhlppahaa.SeriesDatums
end
