/- Chapter 6: all closures together (plain). -/
import Derived.Test.YtmohcmghbfhdlaaGreatQy
import Derived.Test.YtmohcmghbfhdlaaGreatQx
import Derived.Test.YtmohcmghbfhdlaaGreatQv
import Derived.Test.YtmohcmghbfhdlaaGreatQq
section
set_option linter.unusedSimpArgs false
set_option linter.unusedVariables false
namespace Go.Me
open Go.Ab Go.Proofs.YtmohcmghbfhdlaaGreat
set_option maxRecDepth 100000
theorem lk_at {e : IE} {v : Int} : ∀ {L : List (IE × Int)}, (L.map (·.1)).Nodup → (e, v) ∈ L → lk L e = v
 | [], _, h => by cases h
 | p :: r, hn, hm => by
  rw [List.map_cons, List.nodup_cons] at hn
  rw [lk_cons]
  by_cases he : p.1 = e
  ·rw [if_pos he]
   rcases List.mem_cons.1 hm with rfl | hm
   ·rfl
   ·exact absurd (he ▸ List.mem_map_of_mem (f := (·.1)) hm) hn.1
  ·rw [if_neg he]
   rcases List.mem_cons.1 hm with rfl | hm
   ·exact absurd rfl he
   ·exact lk_at hn.2 hm
theorem lk_tri {l : List Pn} {ts : List T3} (h : NetR l ts) {e : IE} {i : Nat} (hi : i < ts.length) : lk (lfA ts) e = i ↔ isE (tr ts i) e := by
 constructor
 ·intro h1
  have h2 : e ∈ (lfA ts).map (·.1) := Classical.not_not.1 fun h2 => by
   have := (lk_no h).2 h2
   omega
  obtain ⟨j, h3, h4, h5⟩ := (lf_tri _).1 (lk_mem h2)
  obtain rfl : j = i := by
   have : ((j : Nat) : Int) = i := h4.symm.trans h1
   omega
  exact h5
 ·intro h1
  exact lk_at h.ok.nd ((lf_tri _).2 ⟨i, hi, rfl, h1⟩)
theorem suOne {α : Type} [DecidableEq α] (a : α) (c : Int) : ∀ {L : List α}, L.Nodup → su L (fun x => if x = a then c else 0) = if a ∈ L then c else 0
 | [], _ => rfl
 | b :: L, hn => by
  rw [List.nodup_cons] at hn
  rw [su_cons, suOne a c hn.2]
  by_cases h : b = a
  ·subst h
   rw [if_pos rfl, if_neg hn.1, if_pos List.mem_cons_self]
   omega
  ·rw [if_neg h]
   by_cases h2 : a ∈ L
   ·rw [if_pos h2, if_pos (List.mem_cons_of_mem _ h2)]
    omega
   ·rw [if_neg h2, if_neg (fun h3 => (List.mem_cons.1 h3).elim (fun h4 => h h4.symm) h2)]
    omega
theorem suDvd {α : Type} {f g : α → Int} (h : ∀ x, (4096 : Int) ∣ f x - g x) : ∀ L : List α, (4096 : Int) ∣ su L f - su L g
 | [] => ⟨0, rfl⟩
 | a :: L => by
  have h1 := h a
  have h2 := suDvd h L
  rw [su_cons, su_cons]
  omega
def dD (ph : List Int) (p q : Int) : Int := nt ph q.toNat - nt ph p.toNat
theorem ed_one {l : List Pn} {ts : List T3} (h : NetR l ts) {p q : Int} (hne : p ≠ q) (hk : lk (lfA ts) (p, q) ≠ -1) (d : Int) : (if (⟨p, q⟩ : Pn) ∈ edL ts then d else 0) + (if (⟨q, p⟩ : Pn) ∈ edL ts then d else 0) = d := by
 rcases Int.lt_or_gt_of_ne hne with h1 | h1
 ·rw [if_pos ((edL_mem h).2 ⟨h1, .inl hk⟩), if_neg (fun h2 => by have := ((edL_mem h).1 h2).1; simp only at this; omega)]
  omega
 ·rw [if_neg (fun h2 => by have := ((edL_mem h).1 h2).1; simp only at this; omega), if_pos ((edL_mem h).2 ⟨h1, .inr hk⟩)]
  omega
theorem tri_zero {l : List Pn} {ts : List T3} (h : NetR l ts) (ph : List Int) {i : Nat} (hi : i < ts.length) :
  su (edL ts) (fun x => (if lk (lfA ts) (x.x, x.y) = i then dD ph x.x x.y else 0) - (if lk (lfA ts) (x.y, x.x) = i then dD ph x.x x.y else 0)) = 0 := by
 have hT := fun (e : IE) => lk_tri h (e := e) hi
 generalize htr : tr ts i = t at hT
 obtain ⟨a, b, c⟩ := t
 have e1 : lk (lfA ts) (a, b) = i := (hT _).2 (.inl rfl)
 have e2 : lk (lfA ts) (b, c) = i := (hT _).2 (.inr (.inl rfl))
 have e3 : lk (lfA ts) (c, a) = i := (hT _).2 (.inr (.inr rfl))
 have hne : ∀ p q : Int, lk (lfA ts) (p, q) = i → p ≠ q := fun p q h1 => by
  have h2 : (p, q) ∈ (lfA ts).map (·.1) := Classical.not_not.1 fun h2 => by
   have := (lk_no h).2 h2
   omega
  exact lf_ne h (lk_mem h2)
 have n1 := hne _ _ e1
 have n2 := hne _ _ e2
 have n3 := hne _ _ e3
 have key : ∀ x ∈ edL ts, (if lk (lfA ts) (x.x, x.y) = i then dD ph x.x x.y else 0) - (if lk (lfA ts) (x.y, x.x) = i then dD ph x.x x.y else 0)
   = (((if x = ⟨a, b⟩ then dD ph a b else 0) + (if x = ⟨b, a⟩ then dD ph a b else 0)) + ((if x = ⟨b, c⟩ then dD ph b c else 0) + (if x = ⟨c, b⟩ then dD ph b c else 0))) + ((if x = ⟨c, a⟩ then dD ph c a else 0) + (if x = ⟨a, c⟩ then dD ph c a else 0)) := fun x _ => by
  obtain ⟨x, y⟩ := x
  simp only [hT, isE, Prod.mk.injEq, Pn.mk.injEq]
  by_cases c1 : x = a ∧ y = b
  ·obtain ⟨rfl, rfl⟩ := c1
   simp [n1, n2, n3, Ne.symm n1, Ne.symm n2, Ne.symm n3]
  by_cases c2 : x = b ∧ y = a
  ·obtain ⟨rfl, rfl⟩ := c2
   simp [n1, n2, n3, Ne.symm n1, Ne.symm n2, Ne.symm n3]
   unfold dD; omega
  by_cases c3 : x = b ∧ y = c
  ·obtain ⟨rfl, rfl⟩ := c3
   simp [n1, n2, n3, Ne.symm n1, Ne.symm n2, Ne.symm n3]
  by_cases c4 : x = c ∧ y = b
  ·obtain ⟨rfl, rfl⟩ := c4
   simp [n1, n2, n3, Ne.symm n1, Ne.symm n2, Ne.symm n3]
   unfold dD; omega
  by_cases c5 : x = c ∧ y = a
  ·obtain ⟨rfl, rfl⟩ := c5
   simp [n1, n2, n3, Ne.symm n1, Ne.symm n2, Ne.symm n3]
  by_cases c6 : x = a ∧ y = c
  ·obtain ⟨rfl, rfl⟩ := c6
   simp [n1, n2, n3, Ne.symm n1, Ne.symm n2, Ne.symm n3]
   unfold dD; omega
  rw [if_neg c1, if_neg c2, if_neg c3, if_neg c4, if_neg c5, if_neg c6, if_neg (by omega), if_neg (by omega)]
  rfl
 have hn := edL_nodup h
 rw [su_congr key, su_add, su_add, su_add, su_add, su_add, suOne _ _ hn, suOne _ _ hn, suOne _ _ hn, suOne _ _ hn, suOne _ _ hn, suOne _ _ hn, ed_one h n1 (by omega), ed_one h n2 (by omega), ed_one h n3 (by omega)]
 unfold dD
 omega
theorem takeP {s : List Pn} {k : Nat} (h : k < s.length) : s.take (k + 1) = s.take k ++ [pt s k] := by
 rw [List.take_add_one, List.getElem?_eq_getElem h]
 unfold pt
 rw [List.getD_eq_getElem?_getD, List.getElem?_eq_getElem h]
 rfl
theorem arK_su {ts : List T3} {ph : List Int} {i : Nat} : ∀ k, k ≤ (edL ts).length → arK ts (dfL ts ph) i k = su ((edL ts).take k) fun x => (if lk (lfA ts) (x.x, x.y) = i then dfP ph x else 0) - (if lk (lfA ts) (x.y, x.x) = i then dfP ph x else 0)
 | 0, _ => rfl
 | k + 1, hk => by
  rw [takeP (by omega), su_app, ← arK_su k (by omega), su_cons, su_nil, arK, sdL_pt (by omega), dfL_nt (by omega)]
  simp only [sdP]
  omega
theorem arK_dvd {l : List Pn} {ts : List T3} (h : NetR l ts) (ph : List Int) {i : Nat} (hi : i < ts.length) : (4096 : Int) ∣ arK ts (dfL ts ph) i (edL ts).length := by
 rw [arK_su _ (Nat.le_refl _), List.take_length]
 have h1 := tri_zero h ph hi
 have h2 := suDvd (f := fun x : Pn => (if lk (lfA ts) (x.x, x.y) = i then dfP ph x else 0) - (if lk (lfA ts) (x.y, x.x) = i then dfP ph x else 0)) (g := fun x => (if lk (lfA ts) (x.x, x.y) = i then dD ph x.x x.y else 0) - (if lk (lfA ts) (x.y, x.x) = i then dD ph x.x x.y else 0)) (fun x => by
  have h3 : (4096 : Int) ∣ dfP ph x - dD ph x.x x.y := by
   unfold dfP dD
   rw [wrI_e]
   omega
  split <;> split <;> omega) (edL ts)
 rw [h1] at h2
 omega
end Go.Me
end
/- Chapter 6: potentials and their bound (plain): no turns cost less. -/
section
set_option linter.unusedSimpArgs false
set_option linter.unusedVariables false
namespace Go.Me
open Go.Ab Go.Proofs.YtmohcmghbfhdlaaGreat
set_option maxRecDepth 100000
def po (ps : List Int) (i : Int) : Int := if i = -1 then 0 else nt ps i.toNat
def abI (n : Int) : Int := if -n > n then -n else n
def bnK (cl ps : List Int) : Nat → Int
 | 0 => 0
 | k + 1 => bnK cl ps k - nt cl k * nt ps k
def crK (ts : List T3) (xs ps : List Int) : Nat → Int
 | 0 => 0
 | k + 1 => crK ts xs ps k + nt xs k * (po ps (pt (sdL ts) k).x - po ps (pt (sdL ts) k).y)
theorem suIxP {a v : Int} {n : Nat} {ps : List Int} (h1 : -1 ≤ a) (h2 : a < n) : su (List.range n) (fun i => (if a = ((i : Nat) : Int) then v else 0) * nt ps i) = v * po ps a := by
 unfold po
 by_cases h : a = -1
 ·rw [if_pos h, Int.mul_zero, su_congr (g := fun _ => 0) (fun i _ => by rw [if_neg (by omega), Int.zero_mul]), su_zero]
 ·obtain ⟨k, rfl⟩ : ∃ k : Nat, a = k := ⟨a.toNat, by omega⟩
  rw [if_neg h, su_congr (g := fun i => if i = k then v * nt ps k else 0) (fun i _ => by
   by_cases h3 : i = k
   ·rw [if_pos h3, if_pos (by omega), h3]
   ·rw [if_neg h3, if_neg (by omega), Int.zero_mul]), suOne _ _ List.nodup_range, if_pos (List.mem_range.2 (by omega)), Int.toNat_natCast]
theorem sum_crK (ts : List T3) (xs ps : List Int) : ∀ k, k ≤ (edL ts).length → su (List.range ts.length) (fun i => arK ts xs i k * nt ps i) = crK ts xs ps k
 | 0, _ => by
  rw [su_congr (g := fun _ => 0) (fun i _ => by unfold arK; rw [Int.zero_mul]), su_zero]
  rfl
 | k + 1, hk => by
  have h1 := lk_rng ts ((pt (edL ts) k).x, (pt (edL ts) k).y)
  have h2 := lk_rng ts ((pt (edL ts) k).y, (pt (edL ts) k).x)
  have e : su (List.range ts.length) (fun i => arK ts xs i (k + 1) * nt ps i) = su (List.range ts.length) (fun (i : Nat) => arK ts xs (i : Int) k * nt ps i + (if (pt (sdL ts) k).x = ((i : Nat) : Int) then nt xs k else 0) * nt ps i - (if (pt (sdL ts) k).y = ((i : Nat) : Int) then nt xs k else 0) * nt ps i) := su_congr fun i _ => by
   show (arK ts xs i k + _ - _) * _ = _
   rw [Int.sub_mul, Int.add_mul]
  rw [e, su_sub, su_add, sum_crK ts xs ps k (by omega), crK, sdL_pt (by omega)]
  rw [suIxP (a := (sdP ts (pt (edL ts) k)).x) h1.1 h1.2, suIxP (a := (sdP ts (pt (edL ts) k)).y) h2.1 h2.2, Int.mul_sub]
  omega
theorem bnK_su (cl ps : List Int) : ∀ k, bnK cl ps k = su (List.range k) fun i => -(nt cl i * nt ps i)
 | 0 => rfl
 | k + 1 => by
  rw [List.range_succ, su_app, ← bnK_su cl ps k, su_cons, su_nil, bnK]
  omega
theorem mul_abI {x d c : Int} (h : abI d ≤ c) : x * d ≤ c * abI x := by
 have h1 : -c ≤ d ∧ d ≤ c := by
  unfold abI at h
  split at h <;> omega
 unfold abI
 split
 ·have h2 : 0 ≤ -x := by omega
  have h3 := Int.mul_le_mul_of_nonneg_left (show -d ≤ c by omega) h2
  rw [Int.neg_mul_neg] at h3
  rw [Int.mul_comm c]
  exact h3
 ·have h2 : 0 ≤ x := by omega
  rw [Int.mul_comm c]
  exact Int.mul_le_mul_of_nonneg_left h1.2 h2
def prF (ts : List T3) (cs ps : List Int) (k : Nat) : Int := if abI (po ps (pt (sdL ts) k).x - po ps (pt (sdL ts) k).y) > nt cs k then 1 else 0
theorem crK_co {ts : List T3} {cs xs ps : List Int} : ∀ k, (∀ j, j < k → prF ts cs ps j = 0) → crK ts xs ps k ≤ coL cs xs k
 | 0, _ => Int.le_refl _
 | k + 1, h => by
  have h1 := crK_co (xs := xs) k fun j hj => h j (by omega)
  have h2 := h k (by omega)
  unfold prF at h2
  have h3 : abI (po ps (pt (sdL ts) k).x - po ps (pt (sdL ts) k).y) ≤ nt cs k := by
   split at h2
   ·cases h2
   ·omega
  have h4 := mul_abI (x := nt xs k) h3
  unfold abI at h4
  show crK ts xs ps k + _ ≤ coL cs xs k + _
  exact Int.add_le_add h1 h4
def poE (ts : List T3) (cs ps : List Int) : Int := if ps.length ≠ ts.length then 10 else if ps.any (fun x => !rgB x (-1000000) 1000000) = true then 2 else if fstN (prF ts cs ps) (edL ts).length ≠ -1 then 22 else 0
theorem poE_10 {ts : List T3} {cs ps : List Int} (h : ps.length ≠ ts.length) : poE ts cs ps = 10 := if_pos h
theorem poE_2 {ts : List T3} {cs ps : List Int} (h : ps.length = ts.length) (h2 : ps.any (fun x => !rgB x (-1000000) 1000000) = true) : poE ts cs ps = 2 := by
 unfold poE
 rw [if_neg (fun h3 => h3 h), if_pos h2]
theorem anyR_at {ps : List Int} {a b : Int} {k : Nat} (hk : k < ps.length) (h : rgB (nt ps k) a b = false) : ps.any (fun x => !rgB x a b) = true := by
 rw [List.any_eq_true]
 exact ⟨nt ps k, nt_mem hk, by rw [h]; rfl⟩
theorem anyR_all {ps : List Int} {a b : Int} (h : ∀ k, k < ps.length → rgB (nt ps k) a b = true) : ps.any (fun x => !rgB x a b) = false := by
 cases h2 : ps.any (fun x => !rgB x a b) with
 | false => rfl
 | true =>
  rw [List.any_eq_true] at h2
  obtain ⟨x, hx, h4⟩ := h2
  obtain ⟨k, hk, rfl⟩ := List.getElem_of_mem hx
  have h5 := h k hk
  unfold nt at h5
  rw [List.getD_eq_getElem?_getD, List.getElem?_eq_getElem hk, Option.getD_some] at h5
  rw [h5] at h4
  cases h4
theorem poE_22 {ts : List T3} {cs ps : List Int} (h : ps.length = ts.length) (h2 : ps.any (fun x => !rgB x (-1000000) 1000000) = false) {k : Nat} (hk : k < (edL ts).length) (hj : ∀ j, j < k → prF ts cs ps j = 0) (he : prF ts cs ps k ≠ 0) : poE ts cs ps = 22 := by
 unfold poE
 rw [if_neg (fun h3 => h3 h), h2, if_neg (by decide), fstN_yes hj he _ hk, if_pos (by omega)]
theorem poE_0 {ts : List T3} {cs ps : List Int} (h : ps.length = ts.length) (h2 : ps.any (fun x => !rgB x (-1000000) 1000000) = false) (hj : ∀ j, j < (edL ts).length → prF ts cs ps j = 0) : poE ts cs ps = 0 := by
 unfold poE
 rw [if_neg (fun h3 => h3 h), h2, if_neg (by decide), fstN_no _ hj, if_neg (fun h => h rfl)]
theorem poE_of {ts : List T3} {cs ps : List Int} (h : poE ts cs ps = 0) : ps.length = ts.length ∧ ps.any (fun x => !rgB x (-1000000) 1000000) = false ∧ ∀ j, j < (edL ts).length → prF ts cs ps j = 0 := by
 unfold poE at h
 by_cases h1 : ps.length ≠ ts.length
 ·rw [if_pos h1] at h; cases h
 ·rw [if_neg h1] at h
  cases h2 : ps.any (fun x => !rgB x (-1000000) 1000000) with
  | true => rw [h2, if_pos rfl] at h; cases h
  | false =>
   rw [h2, if_neg (by decide)] at h
   refine ⟨Classical.not_not.1 h1, rfl, ?_⟩
   rcases fst_cases (prF ts cs ps) (edL ts).length with h3 | ⟨i, h3, h4, h5⟩
   ·exact h3
   ·rw [fstN_yes h4 h5 _ h3, if_pos (by omega)] at h
    cases h
theorem weak {ts : List T3} {ph cs xs ps : List Int} (htu : tuE ts ph xs = 0) (hpo : poE ts cs ps = 0) : bnK (clL ts ph) ps ts.length ≤ coL cs xs (edL ts).length := by
 have h0 : ∀ i, i < ts.length → tuT ts ph xs i = 0 := by
  rw [tuE_R] at htu
  by_cases h1 : tuR ts xs ≠ 0
  ·rw [if_pos h1] at htu; exact absurd htu h1
  ·rw [if_neg h1] at htu
   rcases fst_cases (tuT ts ph xs) ts.length with h3 | ⟨i, h3, h4, h5⟩
   ·exact h3
   ·rw [fstN_yes h4 h5 _ h3, if_pos (by omega)] at htu
    cases htu
 have h1 : bnK (clL ts ph) ps ts.length = crK ts xs ps (edL ts).length := by
  rw [bnK_su, ← sum_crK ts xs ps _ (Nat.le_refl _)]
  refine su_congr fun i hi => ?_
  have hi := List.mem_range.1 hi
  have h2 := h0 i hi
  unfold tuT at h2
  rw [arK_smL hi _ (Nat.le_refl _), show nt (smL ts xs (edL ts).length) i = -nt (clL ts ph) i by omega, Int.neg_mul]
 rw [h1]
 exact crK_co _ (poE_of hpo).2.2
theorem arK_bd2 {ts : List T3} {ph : List Int} {i : Int} : ∀ k, k ≤ (edL ts).length → -(4096 * (k : Int)) ≤ arK ts (dfL ts ph) i k ∧ arK ts (dfL ts ph) i k ≤ 4096 * (k : Int)
 | 0, _ => by unfold arK; omega
 | k + 1, hk => by
  have h1 := arK_bd2 (ts := ts) (ph := ph) (i := i) k (by omega)
  have h2 := dfL_bd ts ph k (by rw [dfL_len]; omega)
  unfold arK
  split <;> split <;> omega
theorem cl_bd2 {l : List Pn} {ts : List T3} (h : NetR l ts) (ph : List Int) {i : Nat} (hi : i < ts.length) : -1000 ≤ nt (clL ts ph) i ∧ nt (clL ts ph) i ≤ 1000 := by
 have h1 := arK_bd2 (ts := ts) (ph := ph) (i := i) (edL ts).length (Nat.le_refl _)
 have h2 := edL_le ts
 have h3 := h.le
 obtain ⟨c, hc⟩ := arK_dvd h ph hi
 rw [← arK_cl hi, hc, Int.mul_tdiv_cancel_left _ (by decide)]
 omega
theorem bn_mul {l : List Pn} {ts : List T3} (h : NetR l ts) (ph : List Int) {ps : List Int} (hb : ∀ k, k < ps.length → -1000000 ≤ nt ps k ∧ nt ps k ≤ 1000000) (hl : ps.length = ts.length) {k : Nat} (hk : k < ts.length) : -1000000000 ≤ nt (clL ts ph) k * nt ps k ∧ nt (clL ts ph) k * nt ps k ≤ 1000000000 := by
 have h1 := mul_bd (cl_bd2 h ph hk) (hb k (by omega)) (by decide)
 exact h1
theorem bnK_bd {l : List Pn} {ts : List T3} (h : NetR l ts) (ph : List Int) {ps : List Int} (hb : ∀ k, k < ps.length → -1000000 ≤ nt ps k ∧ nt ps k ≤ 1000000) (hl : ps.length = ts.length) : ∀ k, k ≤ ts.length → -(1000000000 * (k : Int)) ≤ bnK (clL ts ph) ps k ∧ bnK (clL ts ph) ps k ≤ 1000000000 * (k : Int)
 | 0, _ => by unfold bnK; omega
 | k + 1, hk => by
  have h1 := bnK_bd h ph hb hl k (by omega)
  have h2 := bn_mul h ph hb hl (k := k) (by omega)
  unfold bnK
  omega
theorem po_bd {ps : List Int} (hb : ∀ k, k < ps.length → -1000000 ≤ nt ps k ∧ nt ps k ≤ 1000000) {i : Int} (h0 : -1 ≤ i) (hi : i < ps.length) : -1000000 ≤ po ps i ∧ po ps i ≤ 1000000 := by
 unfold po
 split
 ·omega
 ·exact hb _ (by omega)
end Go.Me
end
