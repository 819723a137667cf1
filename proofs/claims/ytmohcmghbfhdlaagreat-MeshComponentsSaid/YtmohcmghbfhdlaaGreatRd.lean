/- Chapter 6: a field is found; it does not depend on the rounds; it is whole turns from the phases (plain). -/
import Derived.Test.YtmohcmghbfhdlaaGreatRb
import Derived.Test.YtmohcmghbfhdlaaGreatQw
import Derived.Test.YtmohcmghbfhdlaaGreatRc
import Derived.Test.YtmohcmghbfhdlaaGreatQu
section
set_option linter.unusedSimpArgs false
set_option linter.unusedVariables false
namespace Go.Me
open Go.Ab Go.Proofs.YtmohcmghbfhdlaaGreat
set_option maxRecDepth 100000
theorem tri_u {l : List Pn} {ts : List T3} (h : NetR l ts) {u : List Int} (hu : ∀ e ∈ edL ts, e.x ∈ u ↔ e.y ∈ u) {j : Nat} (hj : j < ts.length) : ((tr ts j).1 ∈ u ↔ (tr ts j).2.1 ∈ u) ∧ ((tr ts j).2.1 ∈ u ↔ (tr ts j).2.2 ∈ u) := by
  have key : ∀ a b : Int, isE (tr ts j) (a, b) → (a ∈ u ↔ b ∈ u) := fun a b he => by
    have h1 : lk (lfA ts) (a, b) = j := (lk_tri h hj).2 he
    have hne : a ≠ b := lf_ne h (p := ((a, b), (j : Int))) ((lf_tri _).2 ⟨j, hj, rfl, he⟩)
    rcases Int.lt_or_gt_of_ne hne with h2 | h2
    · exact hu ⟨a, b⟩ ((edL_mem h).2 ⟨h2, .inl (by simp only; omega)⟩)
    · exact (hu ⟨b, a⟩ ((edL_mem h).2 ⟨h2, .inr (by simp only; omega)⟩)).symm
  exact ⟨key _ _ (.inl rfl), key _ _ (.inr (.inl rfl))⟩
theorem closed_all {l : List Pn} {ts : List T3} (h : NetR l ts) {u : List Int} (h0 : (0 : Int) ∈ u) (hl : 0 < l.length) (hu : ∀ e ∈ edL ts, e.x ∈ u ↔ e.y ∈ u) : ∀ i : Nat, i < l.length → (i : Int) ∈ u := by
  have hus := (us_full h.all).1 h.g.2.2
  have hin := fun j (hj : j < ts.length) => (trK_0 (h.all j hj)).1
  have hv : ∀ j, j < ts.length → ∀ x : Int, (x = (tr ts j).1 ∨ x = (tr ts j).2.1 ∨ x = (tr ts j).2.2) → (x ∈ u ↔ (tr ts j).1 ∈ u) := fun j hj x hx => by
    obtain ⟨a, b⟩ := tri_u h hu hj
    rcases hx with rfl | rfl | rfl
    · exact Iff.rfl
    · exact a.symm
    · exact (a.trans b).symm
  have cast : ∀ j, j < ts.length → (((tN (tr ts j)).1 : Nat) : Int) = (tr ts j).1 ∧ (((tN (tr ts j)).2.1 : Nat) : Int) = (tr ts j).2.1 ∧ (((tN (tr ts j)).2.2 : Nat) : Int) = (tr ts j).2.2 := fun j hj => by
    have := hin j hj
    unfold inR at this
    unfold tN
    simp only
    omega
  have hmem : ∀ j, j < ts.length → ∀ e ∈ ed3 (tN (tr ts j)), ((e.1 : Nat) : Int) = (tr ts j).1 ∨ ((e.1 : Nat) : Int) = (tr ts j).2.1 ∨ ((e.1 : Nat) : Int) = (tr ts j).2.2 := fun j hj e he => by
    have hc := cast j hj
    unfold ed3 at he
    simp only [List.mem_cons, List.not_mem_nil, or_false] at he
    rcases he with rfl | rfl | rfl
    · exact .inl hc.1
    · exact .inr (.inl hc.2.1)
    · exact .inr (.inr hc.2.2)
  have hmem2 : ∀ j, j < ts.length → ∀ e ∈ ed3 (tN (tr ts j)), ((e.2 : Nat) : Int) = (tr ts j).1 ∨ ((e.2 : Nat) : Int) = (tr ts j).2.1 ∨ ((e.2 : Nat) : Int) = (tr ts j).2.2 := fun j hj e he => by
    have hc := cast j hj
    unfold ed3 at he
    simp only [List.mem_cons, List.not_mem_nil, or_false] at he
    rcases he with rfl | rfl | rfl
    · exact .inr (.inl hc.2.1)
    · exact .inr (.inr hc.2.2)
    · exact .inl hc.1
  obtain ⟨j0, hj0, hx0⟩ := (us_mem _).1 (hus 0 hl)
  have hall := h.net.conn (fun t => decide (((t.1 : Nat) : Int) ∈ u)) (fun e _ t ht t' ht' h1 h2 => by
    obtain ⟨j, hj, rfl⟩ := tr_of ht
    obtain ⟨j', hj', rfl⟩ := tr_of ht'
    have a1 := hv j hj _ (hmem j hj e h1)
    have a2 := hv j' hj' _ (hmem2 j' hj' (sw e) h2)
    have a3 : (((sw e).2 : Nat) : Int) = ((e.1 : Nat) : Int) := rfl
    rw [a3] at a2
    simp only [(cast j hj).1, (cast j' hj').1]
    exact decide_eq_decide.2 (a1.symm.trans a2)) (tr_mem hj0) (by
      rw [decide_eq_true_iff, (cast j0 hj0).1]
      exact (hv j0 hj0 _ hx0).1 h0)
  intro i hi
  obtain ⟨j, hj, hx⟩ := (us_mem _).1 (hus i hi)
  have h1 := hall _ (tr_mem hj)
  rw [decide_eq_true_iff, (cast j hj).1] at h1
  exact (hv j hj _ hx).2 h1
theorem fdSt_len {ds xs : List Int} {e : Pn} {k : Nat} {s : Fdt} : s.2.length ≤ (fdSt ds xs e k s).2.length ∧ ((fdSt ds xs e k s).2.length = s.2.length → (e.x ∈ s.2 ↔ e.y ∈ s.2) ∧ fdSt ds xs e k s = s) := by
  by_cases hx : e.x ∈ s.2 <;> by_cases hy : e.y ∈ s.2
  · rw [fdSt_c (iff_of_true hx hy)]
    exact ⟨Nat.le_refl _, fun _ => ⟨iff_of_true hx hy, rfl⟩⟩
  · rw [fdSt_a hx hy]
    simp
  · rw [fdSt_b hy hx]
    simp
  · rw [fdSt_c (iff_of_false hx hy)]
    exact ⟨Nat.le_refl _, fun _ => ⟨iff_of_false hx hy, rfl⟩⟩
theorem fdK_len {ds xs : List Int} {es : List Pn} {s : Fdt} : ∀ k, s.2.length ≤ (fdK ds xs es s k).2.length ∧ ((fdK ds xs es s k).2.length = s.2.length → fdK ds xs es s k = s ∧ ∀ j, j < k → ((pt es j).x ∈ s.2 ↔ (pt es j).y ∈ s.2))
  | 0 => ⟨Nat.le_refl _, fun _ => ⟨rfl, fun j hj => absurd hj (by omega)⟩⟩
  | k + 1 => by
    obtain ⟨h1, h2⟩ := fdK_len (ds := ds) (xs := xs) (es := es) (s := s) k
    obtain ⟨h3, h4⟩ := fdSt_len (ds := ds) (xs := xs) (e := pt es k) (k := k) (s := fdK ds xs es s k)
    refine ⟨Nat.le_trans h1 h3, fun h => ?_⟩
    have h5 : (fdSt ds xs (pt es k) k (fdK ds xs es s k)).2.length = s.2.length := h
    obtain ⟨h6, h7⟩ := h2 (by omega)
    obtain ⟨h8, h9⟩ := h4 (by omega)
    rw [h6] at h8
    refine ⟨(show fdSt ds xs (pt es k) k (fdK ds xs es s k) = s from h9.trans h6), fun j hj => ?_⟩
    rcases Nat.lt_or_eq_of_le (Nat.le_of_lt_succ hj) with hj | rfl
    · exact h7 j hj
    · exact h8
theorem fdK_in {ds xs : List Int} {es : List Pn} {s : Fdt} {x : Int} (hx : x ∈ s.2) : ∀ k, x ∈ (fdK ds xs es s k).2
  | 0 => hx
  | k + 1 => by
    have h1 := fdK_in (ds := ds) (xs := xs) (es := es) hx k
    show x ∈ (fdSt ds xs (pt es k) k (fdK ds xs es s k)).2
    unfold fdSt
    split
    · exact List.mem_append_left _ h1
    · split
      · exact List.mem_append_left _ h1
      · exact h1
theorem fdN_in {ds xs : List Int} {es : List Pn} {s : Fdt} {x : Int} (hx : x ∈ s.2) : ∀ r, x ∈ (fdN ds xs es s r).2
  | 0 => hx
  | r + 1 => fdK_in (fdN_in hx r) _
theorem all_len {n : Nat} {u : List Int} (h : ∀ i : Nat, i < n → (i : Int) ∈ u) : n ≤ u.length := by
  have := le_nodup ((List.range n).map fun i : Nat => (i : Int)) u (by
    unfold List.Nodup
    rw [List.pairwise_map]
    exact List.Pairwise.imp (fun h e => h (Int.ofNat.inj e)) List.nodup_range) (fun y hy => by
      obtain ⟨i, hi, rfl⟩ := List.mem_map.1 hy
      exact h i (List.mem_range.1 hi))
  simpa using this
theorem grow {l : List Pn} {ts : List T3} (h : NetR l ts) (hl : 0 < l.length) {ds xs : List Int} {s : Fdt} (h0 : (0 : Int) ∈ s.2) (h1 : 1 ≤ s.2.length) : ∀ r, l.length ≤ (fdN ds xs (edL ts) s r).2.length ∨ r + 1 ≤ (fdN ds xs (edL ts) s r).2.length
  | 0 => .inr h1
  | r + 1 => by
    obtain ⟨h2, h3⟩ := fdK_len (ds := ds) (xs := xs) (es := edL ts) (s := fdN ds xs (edL ts) s r) (edL ts).length
    show l.length ≤ (fdK ds xs (edL ts) (fdN ds xs (edL ts) s r) (edL ts).length).2.length ∨ _ ≤ (fdK ds xs (edL ts) (fdN ds xs (edL ts) s r) (edL ts).length).2.length
    rcases grow h hl (ds := ds) (xs := xs) h0 h1 r with h4 | h4
    · exact .inl (by omega)
    · by_cases h5 : (fdK ds xs (edL ts) (fdN ds xs (edL ts) s r) (edL ts).length).2.length = (fdN ds xs (edL ts) s r).2.length
      · have h6 := (h3 h5).2
        have h7 := all_len (closed_all h (fdN_in h0 r) hl fun e he => by
          obtain ⟨k, hk, rfl⟩ := List.getElem_of_mem he
          have e1 : pt (edL ts) k = (edL ts)[k] := by
            unfold pt
            rw [List.getD_eq_getElem?_getD, List.getElem?_eq_getElem hk]
            rfl
          rw [← e1]
          exact h6 k hk)
        exact .inl (by omega)
      · exact .inr (by omega)
end Go.Me
end
/- Chapter 6: components of points (plain): the program's labels, the reference's rounds. -/
section
set_option linter.unusedSimpArgs false
set_option linter.unusedVariables false
namespace Go.Me
open Go.Ab Go.Proofs.YtmohcmghbfhdlaaGreat
set_option maxRecDepth 100000
def ioL (n : Nat) : List Int := List.map (fun i : Nat => (i : Int)) (List.range n)
theorem ioL_len (n : Nat) : (ioL n).length = n := by unfold ioL; rw [List.length_map, List.length_range]
theorem ioL_nt {n i : Nat} (h : i < n) : nt (ioL n) i = i := by
  unfold nt ioL
  rw [List.getD_eq_getElem?_getD, List.getElem?_map, List.getElem?_range h]
  rfl
def kpB (bs : List Bool) (k : Nat) : Bool := bs.getD k false
def mxI (a b : Int) : Int := if b > a then b else a
def mnI (a b : Int) : Int := if b < a then b else a
def cmF (kp : Bool) (a b c : Int) : Int := if kp = true ∧ c = mxI a b then mnI a b else c
def ckK (f : Int → Int) (A : List Int) : Nat → List Int
  | 0 => A
  | k + 1 => (ckK f A k).set k (f (nt A k))
theorem ckK_len (f : Int → Int) (A : List Int) : ∀ k, (ckK f A k).length = A.length
  | 0 => rfl
  | k + 1 => (List.length_set ..).trans (ckK_len f A k)
theorem ckK_nt (f : Int → Int) (A : List Int) : ∀ (k i : Nat), i < A.length → nt (ckK f A k) i = if i < k then f (nt A i) else nt A i
  | 0, i, _ => (if_neg (by omega)).symm
  | k + 1, i, h => by
    show nt ((ckK f A k).set k (f (nt A k))) i = _
    rw [nt_set (by rw [ckK_len]; exact h), ckK_nt f A k i h]
    by_cases h1 : k = i
    · subst h1
      rw [if_pos rfl, if_pos (by omega)]
    · rw [if_neg h1]
      by_cases h2 : i < k
      · rw [if_pos h2, if_pos (by omega)]
      · rw [if_neg h2, if_neg (by omega)]
def cmE (es : List Pn) (bs : List Bool) (n : Nat) : Nat → List Int
  | 0 => ioL n
  | i + 1 => ckK (cmF (kpB bs i) (nt (cmE es bs n i) (pt es i).x.toNat) (nt (cmE es bs n i) (pt es i).y.toNat)) (cmE es bs n i) n
def cmS (es : List Pn) (bs : List Bool) (n i : Nat) (k : Nat) : List Int := ckK (cmF (kpB bs i) (nt (cmE es bs n i) (pt es i).x.toNat) (nt (cmE es bs n i) (pt es i).y.toNat)) (cmE es bs n i) k
theorem cmE_len (es : List Pn) (bs : List Bool) (n : Nat) : ∀ i, (cmE es bs n i).length = n
  | 0 => ioL_len n
  | i + 1 => (ckK_len _ _ _).trans (cmE_len es bs n i)
theorem cmS_len (es : List Pn) (bs : List Bool) (n i k : Nat) : (cmS es bs n i k).length = n := (ckK_len _ _ _).trans (cmE_len es bs n i)
theorem cmS_at {es : List Pn} {bs : List Bool} {n i k : Nat} (hk : k < n) : nt (cmS es bs n i k) k = nt (cmE es bs n i) k := by
  unfold cmS
  rw [ckK_nt _ _ _ _ (by rw [cmE_len]; exact hk), if_neg (by omega)]
theorem cmS_y {es : List Pn} {bs : List Bool} {n i k : Nat} (hb : kpB bs i = true) (hc : nt (cmE es bs n i) k = mxI (nt (cmE es bs n i) (pt es i).x.toNat) (nt (cmE es bs n i) (pt es i).y.toNat)) : cmS es bs n i (k + 1) = (cmS es bs n i k).set k (mnI (nt (cmE es bs n i) (pt es i).x.toNat) (nt (cmE es bs n i) (pt es i).y.toNat)) := by
  unfold cmS
  show (ckK _ _ k).set k (cmF _ _ _ (nt (cmE es bs n i) k)) = _
  congr 1
  exact if_pos ⟨hb, hc⟩
theorem set_nt {A : List Int} {k : Nat} (h : k < A.length) : A.set k (nt A k) = A := by
  unfold nt
  rw [List.getD_eq_getElem?_getD, List.getElem?_eq_getElem h]
  exact List.set_getElem_self h
theorem cmS_n {es : List Pn} {bs : List Bool} {n i k : Nat} (hk : k < n) (hc : ¬ (kpB bs i = true ∧ nt (cmE es bs n i) k = mxI (nt (cmE es bs n i) (pt es i).x.toNat) (nt (cmE es bs n i) (pt es i).y.toNat))) : cmS es bs n i (k + 1) = cmS es bs n i k := by
  have h1 : nt (cmS es bs n i k) k = nt (cmE es bs n i) k := cmS_at hk
  have h2 := set_nt (A := cmS es bs n i k) (k := k) (by rw [cmS_len]; exact hk)
  rw [h1] at h2
  show (cmS es bs n i k).set k (cmF _ _ _ (nt (cmE es bs n i) k)) = _
  rw [show cmF (kpB bs i) (nt (cmE es bs n i) (pt es i).x.toNat) (nt (cmE es bs n i) (pt es i).y.toNat) (nt (cmE es bs n i) k) = nt (cmE es bs n i) k from if_neg hc]
  exact h2
structure CmOk (es : List Pn) (bs : List Bool) (n : Nat) (A : List Int) (i : Nat) : Prop where
  rng : ∀ v, v < n → 0 ≤ nt A v ∧ nt A v ≤ v
  eq : ∀ j, j < i → kpB bs j = true → nt A (pt es j).x.toNat = nt A (pt es j).y.toNat
  conn : ∀ S : Nat → Prop, (∀ j, j < i → kpB bs j = true → (S (pt es j).x.toNat ↔ S (pt es j).y.toNat)) → ∀ v, v < n → (S (nt A v).toNat ↔ S v)
theorem cmE_ok {es : List Pn} {bs : List Bool} {n : Nat} (hes : ∀ k, k < es.length → (0 ≤ (pt es k).x ∧ (pt es k).x < n) ∧ (0 ≤ (pt es k).y ∧ (pt es k).y < n)) : ∀ i, i ≤ es.length → CmOk es bs n (cmE es bs n i) i
  | 0, _ => ⟨fun v hv => by rw [show nt (cmE es bs n 0) v = v from ioL_nt hv]; omega, fun j hj => absurd hj (by omega), fun S _ v hv => by rw [show nt (cmE es bs n 0) v = v from ioL_nt hv]; exact Iff.rfl⟩
  | i + 1, hi => by
    obtain ⟨h1, h2, h3⟩ := cmE_ok (bs := bs) hes i (by omega)
    obtain ⟨⟨x0, x1⟩, y0, y1⟩ := hes i (by omega)
    have hnt : ∀ v, v < n → nt (cmE es bs n (i + 1)) v = cmF (kpB bs i) (nt (cmE es bs n i) (pt es i).x.toNat) (nt (cmE es bs n i) (pt es i).y.toNat) (nt (cmE es bs n i) v) := fun v hv => by
      show nt (ckK _ _ n) v = _
      rw [ckK_nt _ _ _ _ (by rw [cmE_len]; exact hv), if_pos hv]
    have hx := h1 (pt es i).x.toNat (by omega)
    have hy := h1 (pt es i).y.toNat (by omega)
    have hcx := fun S hS => h3 S hS (pt es i).x.toNat (by omega)
    have hcy := fun S hS => h3 S hS (pt es i).y.toNat (by omega)
    generalize ha : nt (cmE es bs n i) (pt es i).x.toNat = a at *
    generalize hb' : nt (cmE es bs n i) (pt es i).y.toNat = b at *
    refine ⟨fun v hv => ?_, fun j hj hb => ?_, fun S hS v hv => ?_⟩
    · rw [hnt v hv]
      have h4 := h1 v hv
      unfold cmF
      split
      · rename_i h5
        have h6 := h5.2
        unfold mxI at h6
        unfold mnI
        split at h6 <;> split <;> omega
      · exact h4
    · rcases Nat.lt_or_eq_of_le (Nat.le_of_lt_succ hj) with hj | rfl
      · obtain ⟨⟨u0, u1⟩, w0, w1⟩ := hes j (by omega)
        rw [hnt _ (by omega), hnt _ (by omega), h2 j hj hb]
      · rw [hnt _ (by omega), hnt _ (by omega)]
        rw [ha, hb', hb]
        unfold cmF mxI mnI
        simp only [true_and]
        split <;> split <;> split <;> omega
    · rw [hnt v hv]
      have hS' : ∀ j, j < i → kpB bs j = true → (S (pt es j).x.toNat ↔ S (pt es j).y.toNat) := fun j hj => hS j (by omega)
      have h4 := h3 S hS' v hv
      unfold cmF
      split
      · rename_i h5
        have h6 := hS i (by omega) h5.1
        have h7 : S a.toNat ↔ S b.toNat := (hcx S hS').trans (h6.trans (hcy S hS').symm)
        rw [h5.2] at h4
        unfold mxI at h4
        unfold mnI
        split at h4 <;> split
        · exact absurd ‹b > a› (by omega)
        · exact h7.trans h4
        · exact h7.symm.trans h4
        · have : a = b := by omega
          rw [this] at h4 ⊢
          exact h4
      · exact h4
def rcStep (kp : Bool) (e : Pn) (A : List Int) : List Int := if kp = true then (A.set e.x.toNat (mnI (nt A e.x.toNat) (nt A e.y.toNat))).set e.y.toNat (mnI (nt A e.x.toNat) (nt A e.y.toNat)) else A
def rcK (es : List Pn) (bs : List Bool) (A : List Int) : Nat → List Int
  | 0 => A
  | k + 1 => rcStep (kpB bs k) (pt es k) (rcK es bs A k)
def rcN (es : List Pn) (bs : List Bool) (A : List Int) : Nat → List Int
  | 0 => A
  | r + 1 => rcK es bs (rcN es bs A r) es.length
def rcS (es : List Pn) (bs : List Bool) (A : List Int) (r k : Nat) : List Int := rcK es bs (rcN es bs A r) k
theorem rcStep_len {kp : Bool} {e : Pn} {A : List Int} : (rcStep kp e A).length = A.length := by
  unfold rcStep
  split
  · rw [List.length_set, List.length_set]
  · rfl
theorem rcK_len {es : List Pn} {bs : List Bool} {A : List Int} : ∀ k, (rcK es bs A k).length = A.length
  | 0 => rfl
  | k + 1 => rcStep_len.trans (rcK_len k)
theorem rcN_len {es : List Pn} {bs : List Bool} {A : List Int} : ∀ r, (rcN es bs A r).length = A.length
  | 0 => rfl
  | r + 1 => (rcK_len _).trans (rcN_len r)
theorem rcS_len {es : List Pn} {bs : List Bool} {A : List Int} (r k : Nat) : (rcS es bs A r k).length = A.length := (rcK_len k).trans (rcN_len r)
theorem rcStep_nt {e : Pn} {A : List Int} {n v : Nat} (hl : A.length = n) (hv : v < n) : nt (rcStep true e A) v = if v = e.x.toNat ∨ v = e.y.toNat then mnI (nt A e.x.toNat) (nt A e.y.toNat) else nt A v := by
  unfold rcStep
  rw [if_pos rfl, nt_set (by rw [List.length_set]; omega), nt_set (by omega)]
  by_cases h1 : e.y.toNat = v
  · rw [if_pos h1, if_pos (.inr h1.symm)]
  · rw [if_neg h1]
    by_cases h2 : e.x.toNat = v
    · rw [if_pos h2, if_pos (.inl h2.symm)]
    · rw [if_neg h2, if_neg (fun h => h.elim (fun h => h2 h.symm) (fun h => h1 h.symm))]
def RcOk (n : Nat) (P A : List Int) : Prop := A.length = n ∧ ∀ v, v < n → nt P v ≤ nt A v ∧ nt A v ≤ v
theorem mnI_le (a b : Int) : mnI a b ≤ a ∧ mnI a b ≤ b := by unfold mnI; split <;> omega
theorem mnI_or (a b : Int) : mnI a b = a ∨ mnI a b = b := by unfold mnI; split <;> simp
theorem rc_step {es : List Pn} {bs : List Bool} {n : Nat} {P : List Int} (hes : ∀ k, k < es.length → (0 ≤ (pt es k).x ∧ (pt es k).x < n) ∧ (0 ≤ (pt es k).y ∧ (pt es k).y < n)) (hP : CmOk es bs n P es.length) {k : Nat} (hk : k < es.length) {A : List Int} (hA : RcOk n P A) :
    RcOk n P (rcStep (kpB bs k) (pt es k) A) ∧ (∀ v, v < n → nt A v = nt P v → nt (rcStep (kpB bs k) (pt es k) A) v = nt P v) ∧ (kpB bs k = true → (nt A (pt es k).x.toNat = nt P (pt es k).x.toNat ∨ nt A (pt es k).y.toNat = nt P (pt es k).y.toNat) → nt (rcStep (kpB bs k) (pt es k) A) (pt es k).x.toNat = nt P (pt es k).x.toNat ∧ nt (rcStep (kpB bs k) (pt es k) A) (pt es k).y.toNat = nt P (pt es k).y.toNat) := by
  obtain ⟨⟨x0, x1⟩, y0, y1⟩ := hes k hk
  obtain ⟨hl, hb⟩ := hA
  cases hkp : kpB bs k with
  | false => exact ⟨⟨hl, hb⟩, fun v _ h => h, fun h => by cases h⟩
  | true =>
    have he := hP.eq k hk hkp
    have hx := hb (pt es k).x.toNat (by omega)
    have hy := hb (pt es k).y.toNat (by omega)
    have hm := mnI_le (nt A (pt es k).x.toNat) (nt A (pt es k).y.toNat)
    have ho := mnI_or (nt A (pt es k).x.toNat) (nt A (pt es k).y.toNat)
    refine ⟨⟨rcStep_len.trans hl, fun v hv => ?_⟩, fun v hv h => ?_, fun _ h => ?_⟩
    · rw [rcStep_nt hl hv]
      split
      · rename_i h1
        rcases h1 with rfl | rfl <;> omega
      · exact hb v hv
    · rw [rcStep_nt hl hv]
      split
      · rename_i h1
        rcases h1 with rfl | rfl <;> omega
      · exact h
    · rw [rcStep_nt hl (by omega), rcStep_nt hl (by omega), if_pos (.inl rfl), if_pos (.inr rfl)]
      omega
theorem rc_K {es : List Pn} {bs : List Bool} {n : Nat} {P : List Int} (hes : ∀ k, k < es.length → (0 ≤ (pt es k).x ∧ (pt es k).x < n) ∧ (0 ≤ (pt es k).y ∧ (pt es k).y < n)) (hP : CmOk es bs n P es.length) {A : List Int} (hA : RcOk n P A) : ∀ k, k ≤ es.length →
    RcOk n P (rcK es bs A k) ∧ (∀ v, v < n → nt A v = nt P v → nt (rcK es bs A k) v = nt P v) ∧ ∀ j, j < k → kpB bs j = true → (nt A (pt es j).x.toNat = nt P (pt es j).x.toNat ∨ nt A (pt es j).y.toNat = nt P (pt es j).y.toNat) → nt (rcK es bs A k) (pt es j).x.toNat = nt P (pt es j).x.toNat ∧ nt (rcK es bs A k) (pt es j).y.toNat = nt P (pt es j).y.toNat
  | 0, _ => ⟨hA, fun v _ h => h, fun j hj => absurd hj (by omega)⟩
  | k + 1, hk => by
    obtain ⟨h1, h2, h3⟩ := rc_K hes hP hA k (by omega)
    obtain ⟨h4, h5, h6⟩ := rc_step hes hP (k := k) (by omega) h1
    refine ⟨h4, fun v hv h => h5 v hv (h2 v hv h), fun j hj hb h => ?_⟩
    obtain ⟨⟨x0, x1⟩, y0, y1⟩ := hes j (by omega)
    rcases Nat.lt_or_eq_of_le (Nat.le_of_lt_succ hj) with hj | rfl
    · obtain ⟨h7, h8⟩ := h3 j hj hb h
      exact ⟨h5 _ (by omega) h7, h5 _ (by omega) h8⟩
    · exact h6 hb (h.imp (h2 _ (by omega)) (h2 _ (by omega)))
theorem countP_mono {p q : Nat → Bool} : ∀ l : List Nat, (∀ v ∈ l, p v = true → q v = true) → l.countP p ≤ l.countP q
  | [], _ => Nat.le_refl _
  | x :: l, h => by
    have h1 := countP_mono l fun v hv => h v (List.mem_cons_of_mem _ hv)
    have h2 := h x (List.mem_cons_self ..)
    rw [List.countP_cons, List.countP_cons]
    by_cases h3 : p x = true
    · rw [if_pos h3, if_pos (h2 h3)]; omega
    · rw [if_neg h3]; omega
theorem countP_lt {p q : Nat → Bool} : ∀ l : List Nat, (∀ v ∈ l, p v = true → q v = true) → (∃ v ∈ l, p v = false ∧ q v = true) → l.countP p < l.countP q
  | [], _, h => by
    obtain ⟨v, hv, _⟩ := h
    cases hv
  | x :: l, h, h2 => by
    have h1 := countP_mono l fun v hv => h v (List.mem_cons_of_mem _ hv)
    have h3 := h x (List.mem_cons_self ..)
    rw [List.countP_cons, List.countP_cons]
    obtain ⟨v, hv, h4, h5⟩ := h2
    rcases List.mem_cons.1 hv with rfl | hv
    · rw [if_neg (by rw [h4]; decide), if_pos h5]; omega
    · have h6 := countP_lt l (fun v hv => h v (List.mem_cons_of_mem _ hv)) ⟨v, hv, h4, h5⟩
      by_cases h7 : p x = true
      · rw [if_pos h7, if_pos (h3 h7)]; omega
      · rw [if_neg h7]; omega
def rcC (n : Nat) (P A : List Int) : Nat := (List.range n).countP fun v => decide (nt A v = nt P v)
theorem rc_N {es : List Pn} {bs : List Bool} {n : Nat} {P : List Int} (hes : ∀ k, k < es.length → (0 ≤ (pt es k).x ∧ (pt es k).x < n) ∧ (0 ≤ (pt es k).y ∧ (pt es k).y < n)) (hP : CmOk es bs n P es.length) {A : List Int} (hA : RcOk n P A) : ∀ r,
    RcOk n P (rcN es bs A r) ∧ ((∀ v, v < n → nt (rcN es bs A r) v = nt P v) ∨ r ≤ rcC n P (rcN es bs A r))
  | 0 => ⟨hA, .inr (Nat.zero_le _)⟩
  | r + 1 => by
    obtain ⟨h1, h2⟩ := rc_N hes hP hA r
    obtain ⟨h3, h4, h5⟩ := rc_K hes hP h1 es.length (Nat.le_refl _)
    refine ⟨h3, ?_⟩
    show (∀ v, v < n → nt (rcK es bs (rcN es bs A r) es.length) v = nt P v) ∨ r + 1 ≤ rcC n P (rcK es bs (rcN es bs A r) es.length)
    by_cases hall : ∀ v, v < n → nt (rcN es bs A r) v = nt P v
    · exact .inl fun v hv => h4 v hv (hall v hv)
    · have h6 : r ≤ rcC n P (rcN es bs A r) := h2.resolve_left hall
      by_cases hj : ∃ j, j < es.length ∧ kpB bs j = true ∧ ¬ (nt (rcN es bs A r) (pt es j).x.toNat = nt P (pt es j).x.toNat ↔ nt (rcN es bs A r) (pt es j).y.toNat = nt P (pt es j).y.toNat)
      · obtain ⟨j, hj, hb, hne⟩ := hj
        obtain ⟨⟨x0, x1⟩, y0, y1⟩ := hes j hj
        refine .inr ?_
        have h7 : rcC n P (rcN es bs A r) < rcC n P (rcK es bs (rcN es bs A r) es.length) := by
          unfold rcC
          refine countP_lt _ (fun v hv h => decide_eq_true (h4 v (List.mem_range.1 hv) (of_decide_eq_true h))) ?_
          by_cases hx : nt (rcN es bs A r) (pt es j).x.toNat = nt P (pt es j).x.toNat
          · have hy : ¬ nt (rcN es bs A r) (pt es j).y.toNat = nt P (pt es j).y.toNat := fun h => hne ⟨fun _ => h, fun _ => hx⟩
            exact ⟨_, List.mem_range.2 (by omega), decide_eq_false hy, decide_eq_true (h5 j hj hb (.inl hx)).2⟩
          · have hy : nt (rcN es bs A r) (pt es j).y.toNat = nt P (pt es j).y.toNat := Classical.not_not.1 fun h => hne ⟨fun h2 => absurd h2 hx, fun h2 => absurd h2 h⟩
            exact ⟨_, List.mem_range.2 (by omega), decide_eq_false hx, decide_eq_true (h5 j hj hb (.inr hy)).1⟩
        omega
      · refine absurd (fun v hv => ?_) hall
        have hc := hP.conn (fun w => nt (rcN es bs A r) w = nt P w) (fun j hj2 hb => Classical.not_not.1 fun h => hj ⟨j, hj2, hb, h⟩) v hv
        refine hc.1 ?_
        have hr := hP.rng v hv
        have h7 := h1.2 (nt P v).toNat (by omega)
        have h8 := (hP.conn (fun w => nt P w = nt P v) (fun j hj2 hb => by rw [hP.eq j hj2 hb]) v hv).2 rfl
        show nt (rcN es bs A r) (nt P v).toNat = nt P (nt P v).toNat
        (try simp only at h8)
        rw [h8] at h7 ⊢
        omega
theorem nt_ext {A B : List Int} {n : Nat} (ha : A.length = n) (hb : B.length = n) (h : ∀ v, v < n → nt A v = nt B v) : A = B := by
  refine List.ext_getElem (ha.trans hb.symm) fun i h1 h2 => ?_
  have h3 := h i (by omega)
  unfold nt at h3
  rw [List.getD_eq_getElem?_getD, List.getD_eq_getElem?_getD, List.getElem?_eq_getElem h1, List.getElem?_eq_getElem h2] at h3
  exact h3
theorem rc_cm {es : List Pn} {bs : List Bool} {n : Nat} (hes : ∀ k, k < es.length → (0 ≤ (pt es k).x ∧ (pt es k).x < n) ∧ (0 ≤ (pt es k).y ∧ (pt es k).y < n)) : rcN es bs (ioL n) n = cmE es bs n es.length := by
  have hP := cmE_ok (bs := bs) hes es.length (Nat.le_refl _)
  have hA : RcOk n (cmE es bs n es.length) (ioL n) := ⟨ioL_len n, fun v hv => by rw [ioL_nt hv]; exact ⟨(hP.rng v hv).2, Int.le_refl _⟩⟩
  obtain ⟨h1, h2⟩ := rc_N hes hP hA n
  refine nt_ext h1.1 (cmE_len _ _ _ _) fun v hv => ?_
  rcases h2 with h2 | h2
  · exact h2 v hv
  · have h3 : rcC n (cmE es bs n es.length) (rcN es bs (ioL n) n) = (List.range n).length := by
      have h4 : rcC n (cmE es bs n es.length) (rcN es bs (ioL n) n) ≤ (List.range n).length := List.countP_le_length
      rw [List.length_range] at h4 ⊢
      omega
    exact of_decide_eq_true (List.countP_eq_length.1 h3 v (List.mem_range.2 hv))
theorem cm_one {l : List Pn} {ts : List T3} (h : NetR l ts) (hl : 0 < l.length) {bs : List Bool} (hb : ∀ k, k < (edL ts).length → kpB bs k = true) : cmE (edL ts) bs l.length (edL ts).length = List.replicate l.length 0 := by
  have hes := fun k hk => edL_at h.ok k hk
  have hP := cmE_ok (bs := bs) hes (edL ts).length (Nat.le_refl _)
  have hm : ∀ w : Int, w ∈ (ioL l.length).filter (fun w => decide (nt (cmE (edL ts) bs l.length (edL ts).length) w.toNat = 0)) ↔ (0 ≤ w ∧ w < l.length) ∧ nt (cmE (edL ts) bs l.length (edL ts).length) w.toNat = 0 := fun w => by
    rw [List.mem_filter, decide_eq_true_iff]
    refine and_congr ?_ Iff.rfl
    unfold ioL
    rw [List.mem_map]
    constructor
    · rintro ⟨i, hi, rfl⟩
      rw [List.mem_range] at hi
      omega
    · intro hw
      exact ⟨w.toNat, List.mem_range.2 (by omega), by omega⟩
  have hall := closed_all h (u := (ioL l.length).filter (fun w => decide (nt (cmE (edL ts) bs l.length (edL ts).length) w.toNat = 0))) ((hm 0).2 ⟨⟨Int.le_refl _, by omega⟩, by have := hP.rng 0 hl; show nt _ 0 = 0; omega⟩) hl fun e he => by
    obtain ⟨k, hk, rfl⟩ := List.getElem_of_mem he
    have e1 : pt (edL ts) k = (edL ts)[k] := by
      unfold pt
      rw [List.getD_eq_getElem?_getD, List.getElem?_eq_getElem hk]
      rfl
    have h1 := hes k hk
    have h2 := hP.eq k hk (hb k hk)
    rw [e1] at h1 h2
    rw [hm, hm, h2]
    constructor
    · intro h3; exact ⟨h1.2, h3.2⟩
    · intro h3; exact ⟨h1.1, h3.2⟩
  refine nt_ext (cmE_len _ _ _ _) List.length_replicate fun v hv => ?_
  have h1 := ((hm _).1 (hall v hv)).2
  rw [show (((v : Nat) : Int)).toNat = v from Int.toNat_natCast v] at h1
  rw [h1]
  unfold nt
  rw [List.getD_eq_getElem?_getD, List.getElem?_replicate]
  simp [hv]
end Go.Me
end
