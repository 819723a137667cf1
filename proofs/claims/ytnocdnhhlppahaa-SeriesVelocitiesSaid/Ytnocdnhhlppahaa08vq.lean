/- VelocityRange: the plain law. -/
import Derived.Test.Ytnocdnhhlppahaa08vp
set_option linter.unusedSimpArgs false
set_option linter.unusedVariables false
namespace Go.Sr
set_option maxRecDepth 100000
def vsm (N : Nm) (R : List Rw) : Nat → Int
  | 0 => 0
  | k + 1 => vsm N R k + wv N (rw_ R k) * (rw_ R k).v
theorem fit_take (N : Nm) (R : List Rw) : ∀ k, k ≤ R.length → cofF N 0 0 * (nm (R.take k)).p + cofF N 1 0 * (nm (R.take k)).q + cofF N 2 0 * (nm (R.take k)).r = vsm N R k
  | 0, _ => by simp [nm, sm, vsm]
  | k + 1, hk => by
    have h := fit_take N R k (by omega)
    rw [nm_take R k (by omega)]
    unfold vsm wv
    simp only
    grind
/-- The fit is a sum over the phases. -/
theorem fit_vs (R : List Rw) : fitF (nm R) 0 = vsm (nm R) R R.length := by
  have := fit_take (nm R) R R.length (Nat.le_refl _)
  rw [List.take_length] at this
  exact this
theorem abs_mulb {w e m : Int} (h : -m ≤ e ∧ e ≤ m) : -(w.natAbs * m) ≤ w * e ∧ w * e ≤ w.natAbs * m := by
  rcases Int.le_total 0 w with hw | hw
  · have e1 : (w.natAbs : Int) = w := by omega
    rw [e1]
    have h1 := Int.mul_le_mul_of_nonneg_left h.1 hw
    have h2 := Int.mul_le_mul_of_nonneg_left h.2 hw
    rw [Int.mul_neg] at h1
    omega
  · have e1 : (w.natAbs : Int) = -w := by omega
    rw [e1]
    have h1 := Int.mul_le_mul_of_nonneg_left h.1 (show 0 ≤ -w by omega)
    have h2 := Int.mul_le_mul_of_nonneg_left h.2 (show 0 ≤ -w by omega)
    rw [Int.mul_neg, Int.neg_mul w e] at h1
    rw [Int.neg_mul w e] at h2
    omega
/-- Phases within their margins. -/
theorem vs_in {N : Nm} {R R' : List Rw} {l : List Ep} (h : ∀ k, k < l.length → wv N (rw_ R' k) = wv N (rw_ R k) ∧ -(ep l k).m ≤ (rw_ R' k).v - (rw_ R k).v ∧ (rw_ R' k).v - (rw_ R k).v ≤ (ep l k).m) :
    ∀ k, k ≤ l.length → vlo N R l k ≤ vsm N R' k ∧ vsm N R' k ≤ vhi N R l k
  | 0, _ => by simp [vlo, vhi, vsm]
  | k + 1, hk => by
    have h1 := vs_in h k (by omega)
    obtain ⟨h2, h3⟩ := h k (by omega)
    have h4 := abs_mulb (w := wv N (rw_ R k)) h3
    rw [Int.mul_sub] at h4
    unfold vlo vhi vsm
    rw [h2]
    omega
end Go.Sr
namespace Go.Sr
theorem sm_set (f : Rw → Int) (R : List Rw) (k : Nat) (r' : Rw) (hk : k < R.length) (h : f r' = f (rw_ R k)) : sm f (R.set k r') = sm f R := by
  unfold sm
  rw [List.map_set, h]
  have : f (rw_ R k) = (R.map f)[k]'(by simpa using hk) := by
    unfold rw_
    rw [List.getD_eq_getElem?_getD, List.getElem?_eq_getElem hk, List.getElem_map]
    rfl
  rw [this, List.set_getElem_self]
theorem nm_set (R : List Rw) (k : Nat) (q : Int) (hk : k < R.length) : ∃ p' q' r', nm (R.set k ⟨(rw_ R k).x, (rw_ R k).y, (rw_ R k).z, q⟩) = ⟨(nm R).xx, (nm R).xy, (nm R).xz, (nm R).yy, (nm R).yz, (nm R).zz, p', q', r'⟩ := by
  refine ⟨sm (fun r => r.x * r.v) (R.set k ⟨(rw_ R k).x, (rw_ R k).y, (rw_ R k).z, q⟩), sm (fun r => r.y * r.v) (R.set k ⟨(rw_ R k).x, (rw_ R k).y, (rw_ R k).z, q⟩), sm (fun r => r.z * r.v) (R.set k ⟨(rw_ R k).x, (rw_ R k).y, (rw_ R k).z, q⟩), ?_⟩
  have e := fun (f : Rw → Int) (h : f ⟨(rw_ R k).x, (rw_ R k).y, (rw_ R k).z, q⟩ = f (rw_ R k)) => sm_set f R k ⟨(rw_ R k).x, (rw_ R k).y, (rw_ R k).z, q⟩ hk h
  unfold nm
  rw [e (fun r => r.x * r.x) rfl, e (fun r => r.x * r.y) rfl, e (fun r => r.x * r.z) rfl, e (fun r => r.y * r.y) rfl, e (fun r => r.y * r.z) rfl, e (fun r => r.z * r.z) rfl]
theorem nm_set_cof (R : List Rw) (k : Nat) (q : Int) (hk : k < R.length) : (nm (R.set k ⟨(rw_ R k).x, (rw_ R k).y, (rw_ R k).z, q⟩)).det = (nm R).det ∧ ∀ a b, cofF (nm (R.set k ⟨(rw_ R k).x, (rw_ R k).y, (rw_ R k).z, q⟩)) a b = cofF (nm R) a b := by
  obtain ⟨p', q', r', h⟩ := nm_set R k q hk
  rw [h]
  exact ⟨rfl, fun a b => rfl⟩
end Go.Sr
namespace Go.Proofs.Ytnocdnhhlppahaa
open Go Go.RowKit Go.Ab Go.Sr
set_option maxRecDepth 100000
theorem rws_set (l : List Ep) (k : Nat) (q : Int) (hk : k < l.length) : rws (l.set k ⟨(ep l k).d, (ep l k).b, q, (ep l k).m⟩) = (rws l).set k ⟨(rw_ (rws l) k).x, (rw_ (rws l) k).y, (rw_ (rws l) k).z, q⟩ := by
  have e0 : (ep (l.set k ⟨(ep l k).d, (ep l k).b, q, (ep l k).m⟩) 0).d = (ep l 0).d := by
    unfold ep
    rw [List.getD_eq_getElem?_getD, List.getElem?_set]
    split
    · rename_i h
      subst h
      rfl
    · rw [List.getD_eq_getElem?_getD]
  rw [rw_rws l k hk]
  unfold rws
  rw [e0, List.map_set]
/-- The fit of a series with one phase moved within its margin. -/
theorem fit_set (l : List Ep) (k : Nat) (q : Int) (hk : k < l.length) (hq : -(ep l k).m ≤ q - (ep l k).p ∧ q - (ep l k).p ≤ (ep l k).m) (hm : ∀ i, i < l.length → 0 ≤ (ep l i).m) : (NM (l.set k ⟨(ep l k).d, (ep l k).b, q, (ep l k).m⟩)).det = (NM l).det ∧
    vlo (NM l) (rws l) l l.length ≤ fitF (NM (l.set k ⟨(ep l k).d, (ep l k).b, q, (ep l k).m⟩)) 0 ∧ fitF (NM (l.set k ⟨(ep l k).d, (ep l k).b, q, (ep l k).m⟩)) 0 ≤ vhi (NM l) (rws l) l l.length := by
  unfold NM
  rw [rws_set l k q hk, fit_vs]
  have hk' : k < (rws l).length := by rw [rws_len]; exact hk
  obtain ⟨h1, h2⟩ := nm_set_cof (rws l) k q hk'
  refine ⟨h1, ?_⟩
  have hv : (rw_ (rws l) k).v = (ep l k).p := by rw [rw_rws l k hk]
  generalize hR : (rws l).set k ⟨(rw_ (rws l) k).x, (rw_ (rws l) k).y, (rw_ (rws l) k).z, q⟩ = R' at *
  have hlen : R'.length = l.length := by rw [← hR, List.length_set, rws_len]
  have hw : ∀ r, wv (nm R') r = wv (nm (rws l)) r := fun r => by unfold wv; rw [h2, h2, h2]
  have hvs : ∀ n, vsm (nm R') R' n = vsm (nm (rws l)) R' n := fun n => by
    induction n with
    | zero => rfl
    | succ n ih => unfold vsm; rw [ih, hw]
  rw [hvs, hlen]
  refine vs_in (fun i hi => ?_) l.length (Nat.le_refl _)
  have hg : rw_ R' i = if k = i then ⟨(rw_ (rws l) k).x, (rw_ (rws l) k).y, (rw_ (rws l) k).z, q⟩ else rw_ (rws l) i := by
    rw [← hR]
    unfold rw_
    rw [List.getD_eq_getElem?_getD, List.getElem?_set, if_pos hk']
    split
    · rfl
    · rw [List.getD_eq_getElem?_getD]
  rw [hg]
  split
  · rename_i h
    subst h
    refine ⟨rfl, ?_⟩
    rw [hv]
    exact hq
  · refine ⟨rfl, ?_⟩
    have := hm i hi
    omega
end Go.Proofs.Ytnocdnhhlppahaa
