/- Chapter 6 in plain Lean: a right net hangs together, and goes round the hull once. -/
import Derived.Test.YtmohcmghbfhdlaaGreatRa
import Derived.Test.YtmohcmghbfhdlaaGreatQe
section
set_option linter.unusedSimpArgs false
set_option linter.unusedVariables false
namespace Go.Me
def cyc (h : List Nat) : List Ed := h.zip (h.tail ++ h.take 1)
theorem su_zip_tail (f : Nat → Int) : ∀ (a : Nat) (r : List Nat) (z : Nat), su ((a :: r).zip (r ++ [z])) (fun e => f e.1 - f e.2) = f a - f z
  | a, [], z => by show f a - f z + 0 = _; omega
  | a, b :: r, z => by
    rw [List.cons_append, List.zip_cons_cons, su_cons, su_zip_tail f b r z]
    show f a - f b + (f b - f z) = _
    omega
theorem bal_cyc (h : List Nat) : Bal (cyc h) := fun f => by
  cases h with
  | nil => rfl
  | cons a r =>
    show su ((a :: r).zip (r ++ [a])) _ = 0
    rw [su_zip_tail]
    omega
def shr (B : Int) (l : List Pn) (i : Nat) : Pn := ⟨(2 * B + 1) * (pt l i).x + (pt l i).y, (pt l i).y⟩
theorem cr_shr (B : Int) (l : List Pn) (i j k : Nat) : cr (shr B l i) (shr B l j) (shr B l k) = (2 * B + 1) * cr (pt l i) (pt l j) (pt l k) := by unfold cr shr; grind
structure Net (B : Int) (l : List Pn) (ts : List Tri) (h : List Nat) : Prop where
  bnd : ∀ p ∈ l, -B ≤ p.y ∧ p.y ≤ B
  apart : Apart l
  rng : ∀ t ∈ ts, t.1 < l.length ∧ t.2.1 < l.length ∧ t.2.2 < l.length
  pos : ∀ t ∈ ts, 0 < cr (pt l t.1) (pt l t.2.1) (pt l t.2.2)
  nd : (edT ts).Nodup
  sup : ∀ e ∈ bd (edT ts), ∀ q, q < l.length → 0 ≤ cr (pt l e.1) (pt l e.2) (pt l q)
  ne : ts ≠ []
  hsup : ∀ e ∈ cyc h, e.1 < l.length ∧ e.2 < l.length ∧ e.1 ≠ e.2 ∧ ∀ q, q < l.length → 0 ≤ cr (pt l e.1) (pt l e.2) (pt l q)
  hone : ∃ m, m < l.length ∧ (∀ v, v < l.length → v = m ∨ lexLt (pt l m) (pt l v)) ∧ su (cyc h) (fun e => if e.2 = m then 1 else 0) = 1
  area : su ts (fun t => cr (pt l t.1) (pt l t.2.1) (pt l t.2.2)) = ar (pt l) (cyc h)
  used : ∀ i, i < l.length → ∃ t ∈ ts, i = t.1 ∨ i = t.2.1 ∨ i = t.2.2
section
variable {B : Int} {l : List Pn} {ts : List Tri} {h : List Nat}
theorem edT_sub {A ts : List Tri} (h : A.Sublist ts) : (edT A).Sublist (edT ts) := by
  unfold edT
  induction h with
  | slnil => exact .slnil
  | cons a _ ih => rw [List.flatMap_cons]; exact ih.trans (List.sublist_append_right _ _)
  | cons_cons a _ ih => rw [List.flatMap_cons, List.flatMap_cons]; exact ih.append_left _
theorem edT_mem {ts : List Tri} {e : Ed} : e ∈ edT ts ↔ ∃ t ∈ ts, e = (t.1, t.2.1) ∨ e = (t.2.1, t.2.2) ∨ e = (t.2.2, t.1) := by
  unfold edT
  rw [List.mem_flatMap]
  constructor
  · rintro ⟨t, ht, he⟩
    exact ⟨t, ht, by simpa [ed3] using he⟩
  · rintro ⟨t, ht, he⟩
    exact ⟨t, ht, by simpa [ed3] using he⟩
theorem cr_pos_ne {a b c : Pn} (h : 0 < cr a b c) : a ≠ b ∧ b ≠ c ∧ c ≠ a := by
  refine ⟨fun e => ?_, fun e => ?_, fun e => ?_⟩ <;> subst e <;> unfold cr at h <;> grind
theorem Net.edge (N : Net B l ts h) {e : Ed} (he : e ∈ edT ts) : e.1 < l.length ∧ e.2 < l.length ∧ e.1 ≠ e.2 := by
  obtain ⟨t, ht, hh⟩ := edT_mem.1 he
  obtain ⟨r1, r2, r3⟩ := N.rng t ht
  obtain ⟨n1, n2, n3⟩ := cr_pos_ne (N.pos t ht)
  rcases hh with rfl | rfl | rfl
  · exact ⟨r1, r2, fun e => n1 (congrArg (pt l) e)⟩
  · exact ⟨r2, r3, fun e => n2 (congrArg (pt l) e)⟩
  · exact ⟨r3, r1, fun e => n3 (congrArg (pt l) e)⟩
theorem shr_lt (hb : ∀ p ∈ l, -B ≤ p.y ∧ p.y ≤ B) {i j : Nat} (hi : i < l.length) (hj : j < l.length) (h : lexLt (pt l i) (pt l j)) : (shr B l i).x < (shr B l j).x := by
  have := lex_ph (hb _ (pt_mem hi)) (hb _ (pt_mem hj)) h
  unfold ph at this
  show (2 * B + 1) * (pt l i).x + (pt l i).y < (2 * B + 1) * (pt l j).x + (pt l j).y
  omega
theorem lex_tri {p q : Pn} (h : p ≠ q) : lexLt p q ∨ lexLt q p := by
  unfold lexLt
  have : p.x ≠ q.x ∨ p.y ≠ q.y := by
    apply Classical.byContradiction
    intro hn
    rw [not_or] at hn
    refine h ?_
    cases p; cases q
    simp only [Pn.mk.injEq]
    simp only at hn
    omega
  omega
theorem Net.gen (N : Net B l ts h) : Gen (shr B l) l.length := by
  have hB : 0 ≤ B := by
    obtain ⟨m, hm, _⟩ := N.hone
    have := N.bnd _ (pt_mem hm)
    omega
  refine ⟨fun i j hi hj hx => ?_, ?_⟩
  · apply Classical.byContradiction
    intro hne
    have hp : pt l i ≠ pt l j := fun h => hne (N.apart i j hi hj h)
    rcases lex_tri hp with h | h
    · have := shr_lt N.bnd hi hj h; omega
    · have := shr_lt N.bnd hj hi h; omega
  · obtain ⟨t, r, ht⟩ := List.exists_cons_of_ne_nil N.ne
    have hm : t ∈ ts := by rw [ht]; simp
    obtain ⟨r1, r2, r3⟩ := N.rng t hm
    refine ⟨t.1, t.2.1, t.2.2, r1, r2, r3, ?_⟩
    rw [cr_shr]
    exact Int.mul_ne_zero (by omega) (by have := N.pos t hm; omega)
theorem sup_shr (hB : 0 ≤ B) {e : Ed} (h1 : e.1 < l.length) (h2 : e.2 < l.length) (h3 : e.1 ≠ e.2) (h4 : ∀ q, q < l.length → 0 ≤ cr (pt l e.1) (pt l e.2) (pt l q)) : Sup (shr B l) l.length e :=
  ⟨h1, h2, h3, fun q hq => by rw [cr_shr]; exact Int.mul_nonneg (by omega) (h4 q hq)⟩
theorem ar_shr (B : Int) (l : List Pn) (S : List Ed) : ar (shr B l) S = (2 * B + 1) * ar (pt l) S := by
  unfold ar
  rw [← su_mul]
  refine su_congr fun e _ => ?_
  unfold shr
  grind
theorem ar_tris (P : Nat → Pn) (ts : List Tri) : ar P (edT ts) = su ts fun t => cr (P t.1) (P t.2.1) (P t.2.2) := by
  unfold ar edT
  rw [su_flat]
  refine su_congr fun t _ => ?_
  rw [su_ed3]
  unfold cr
  grind
theorem anti_ar (P : Nat → Pn) : Anti fun e => (P e.1).x * (P e.2).y - (P e.1).y * (P e.2).x := fun e => by
  show (P e.2).x * (P e.1).y - (P e.2).y * (P e.1).x = -((P e.1).x * (P e.2).y - (P e.1).y * (P e.2).x)
  grind
def wnd (B : Int) (l : List Pn) (A : List Tri) (m : Nat) : Int := U (shr B l) (bd (edT A)) (shr B l m).x
theorem Net.wind (N : Net B l ts h) {A : List Tri} (hA : A.Sublist ts) (hc : ∀ e ∈ edT A, sw e ∈ edT ts → sw e ∈ edT A) {m : Nat} (hm : m < l.length) (hmin : ∀ v, v < l.length → v = m ∨ lexLt (pt l m) (pt l v)) (hone : su (cyc h) (fun e => if e.2 = m then 1 else 0) = 1) :
    su A (fun t => cr (pt l t.1) (pt l t.2.1) (pt l t.2.2)) = wnd B l A m * ar (pt l) (cyc h) := by
  have hB : 0 ≤ B := by have := N.bnd _ (pt_mem hm); omega
  have hnd : (edT A).Nodup := by
    refine List.Sublist.nodup ?_ N.nd
    exact edT_sub hA
  have hmn : ∀ v, v < l.length → (shr B l m).x ≤ (shr B l v).x := fun v hv => by
    rcases hmin v hv with rfl | h
    · exact Int.le_refl _
    · exact Int.le_of_lt (shr_lt N.bnd hm hv h)
  -- the greatest one
  obtain ⟨M, hM, hmx⟩ : ∃ M, M < l.length ∧ ∀ v, v < l.length → (shr B l v).x ≤ (shr B l M).x := by
    have key : ∀ k, 0 < k → k ≤ l.length → ∃ M, M < k ∧ ∀ v, v < k → (shr B l v).x ≤ (shr B l M).x := by
      intro k
      induction k with
      | zero => intro h; omega
      | succ k ih =>
        intro _ hk
        rcases Nat.eq_zero_or_pos k with h0 | h0
        · subst h0
          exact ⟨0, by omega, fun v hv => by obtain rfl : v = 0 := by omega
                                             exact Int.le_refl _⟩
        · obtain ⟨M, h1, h2⟩ := ih h0 (by omega)
          rcases Int.le_total (shr B l k).x (shr B l M).x with hx | hx
          · exact ⟨M, by omega, fun v hv => by
              rcases Nat.lt_or_eq_of_le (Nat.le_of_lt_succ hv) with h | rfl
              · exact h2 v h
              · exact hx⟩
          · exact ⟨k, by omega, fun v hv => by
              rcases Nat.lt_or_eq_of_le (Nat.le_of_lt_succ hv) with h | rfl
              · exact Int.le_trans (h2 v h) hx
              · exact Int.le_refl _⟩
    exact key l.length (by omega) (Nat.le_refl _)
  have sA : ∀ e ∈ bd (edT A), Sup (shr B l) l.length e := fun e he => by
    obtain ⟨h1, h2⟩ := bd_mem.1 he
    have h1' : e ∈ edT ts := by
      obtain ⟨t, ht, hh⟩ := edT_mem.1 h1
      exact edT_mem.2 ⟨t, hA.subset ht, hh⟩
    obtain ⟨q1, q2, q3⟩ := N.edge h1'
    exact sup_shr hB q1 q2 q3 (N.sup e (bd_mem.2 ⟨h1', fun h => h2 (hc e h1 h)⟩))
  have sH : ∀ e ∈ cyc h, Sup (shr B l) l.length e := fun e he => by
    obtain ⟨q1, q2, q3, q4⟩ := N.hsup e he
    exact sup_shr hB q1 q2 q3 q4
  have aw := area_w N.gen (bal_bd hnd) (bal_cyc h) sA sH hm hM hmn hmx
  have uH : U (shr B l) (cyc h) (shr B l m).x = 1 := by
    rw [← hone]
    unfold U
    refine su_congr fun e he => ?_
    have s := sH e he
    unfold sp
    have i2 := hmn e.2 s.l2
    have i1 := hmn e.1 s.l1
    by_cases h2 : e.2 = m
    · have : (shr B l m).x ≠ (shr B l e.1).x := fun hx => s.ne ((N.gen.inj m e.1 hm s.l1 hx).symm.trans h2.symm)
      rw [if_pos h2, if_pos ⟨by rw [h2]; exact Int.le_refl _, by omega⟩]
    · have : (shr B l m).x ≠ (shr B l e.2).x := fun hx => h2 (N.gen.inj m e.2 hm s.l2 hx).symm
      rw [if_neg h2, if_neg (by omega)]
  have e1 : ar (shr B l) (bd (edT A)) = (2 * B + 1) * su A fun t => cr (pt l t.1) (pt l t.2.1) (pt l t.2.2) := by
    have := su_bd hnd (anti_ar (shr B l))
    have h2 := ar_tris (pt l) A
    rw [← h2, ← ar_shr]
    exact this.symm
  rw [uH, e1, ar_shr, Int.one_mul] at aw
  refine Int.eq_of_mul_eq_mul_left (show (2 * B + 1) ≠ 0 by omega) ?_
  rw [aw]
  unfold wnd
  grind
end
end Go.Me
end
/- Chapter 6 in plain Lean: how many triangles a net has: each one is counted at its middle corner. Points have different x here. -/
section
set_option linter.unusedSimpArgs false
set_option linter.unusedVariables false
namespace Go.Me
theorem vec3 (o u v w : Pn) : (u.x - o.x) * cr o v w = (v.x - o.x) * cr o u w + (w.x - o.x) * cr o v u := by unfold cr; grind
theorem cr_rot (a b c : Pn) : cr b c a = cr a b c := by unfold cr; grind
theorem cr_neg (a b c : Pn) : cr b a c = -cr a b c := by unfold cr; grind
section
variable (P : Nat → Pn)
def chi (v : Nat) (e : Ed) : Int := (if ((P e.2).x ≤ (P v).x ∧ (P v).x < (P e.1).x) ∧ 0 < cr (P e.1) (P e.2) (P v) then 1 else 0) - if ((P e.1).x ≤ (P v).x ∧ (P v).x < (P e.2).x) ∧ cr (P e.1) (P e.2) (P v) < 0 then 1 else 0
def chd (v : Nat) (e : Ed) : Int := (if ((P e.1).x ≤ (P v).x ∧ (P v).x < (P e.2).x) ∧ 0 < cr (P e.1) (P e.2) (P v) then 1 else 0) - if ((P e.2).x ≤ (P v).x ∧ (P v).x < (P e.1).x) ∧ cr (P e.1) (P e.2) (P v) < 0 then 1 else 0
def upF (v a b c : Nat) : Int := if a = v ∧ (P v).x < (P b).x ∧ (P c).x < (P v).x then 1 else 0
def dnF (v a b c : Nat) : Int := if a = v ∧ (P b).x < (P v).x ∧ (P v).x < (P c).x then 1 else 0
def uppI (v : Nat) (t : Tri) : Int := upF P v t.1 t.2.1 t.2.2 + upF P v t.2.1 t.2.2 t.1 + upF P v t.2.2 t.1 t.2.1
def dnI (v : Nat) (t : Tri) : Int := dnF P v t.1 t.2.1 t.2.2 + dnF P v t.2.1 t.2.2 t.1 + dnF P v t.2.2 t.1 t.2.1
def gOI (v : Nat) (e : Ed) : Int := (if e.1 = v ∧ (P v).x < (P e.2).x then 1 else 0) - if e.2 = v ∧ (P v).x < (P e.1).x then 1 else 0
end
section
variable {P : Nat → Pn} {n : Nat}
theorem anti_chi (v : Nat) : Anti (chi P v) := fun e => by
  have := cr_neg (P e.1) (P e.2) (P v)
  unfold chi sw
  simp only
  rw [this]
  generalize cr (P e.1) (P e.2) (P v) = k
  repeat' split
  all_goals omega
theorem anti_chd (v : Nat) : Anti (chd P v) := fun e => by
  have := cr_neg (P e.1) (P e.2) (P v)
  unfold chd sw
  simp only
  rw [this]
  generalize cr (P e.1) (P e.2) (P v) = k
  repeat' split
  all_goals omega
theorem anti_gOI (v : Nat) : Anti (gOI P v) := fun e => by
  unfold gOI sw
  simp only
  omega
theorem chd_mr (v : Nat) (e : Ed) : chd P v e = chi (mr P) v (sw e) := by
  have h := cr_mr P e.1 e.2 v
  have h' : cr (mr P (sw e).1) (mr P (sw e).2) (mr P v) = cr (P e.1) (P e.2) (P v) := h
  unfold chd chi
  rw [h']
  rfl
theorem in_min {p q r v : Nat} (h1 : (P p).x < (P q).x) (h2 : (P p).x < (P r).x) (h3 : (P q).x ≠ (P r).x) (hc : 0 < cr (P p) (P q) (P r)) (hq : (P v).x = (P q).x → v = q) (hr : (P v).x = (P r).x → v = r) (hp : (P v).x = (P p).x → v = p) :
    0 ≤ su (ed3 (p, q, r)) (chi P v) ∧ ((P q).x < (P r).x → v = q → 1 ≤ su (ed3 (p, q, r)) (chi P v)) := by
  rw [su_ed3]
  have i1 := vec3 (P p) (P q) (P r) (P v)
  have i2 := vec3 (P r) (P q) (P p) (P v)
  have i3 := vec3 (P q) (P p) (P r) (P v)
  have c1 : cr (P p) (P r) (P q) = -cr (P p) (P q) (P r) := by unfold cr; grind
  have c2 : cr (P r) (P p) (P q) = cr (P p) (P q) (P r) := by unfold cr; grind
  have c3 : cr (P q) (P r) (P p) = cr (P p) (P q) (P r) := by unfold cr; grind
  have c4 : cr (P p) (P r) (P v) = -cr (P r) (P p) (P v) := by unfold cr; grind
  have c5 : cr (P r) (P q) (P v) = -cr (P q) (P r) (P v) := by unfold cr; grind
  have c6 : cr (P q) (P p) (P v) = -cr (P p) (P q) (P v) := by unfold cr; grind
  rw [c1, c4] at i1
  rw [c2, c5] at i2
  rw [c3, c6] at i3
  have hvq : v = q → cr (P q) (P r) (P v) = 0 ∧ cr (P p) (P q) (P v) = 0 ∧ cr (P r) (P p) (P v) = cr (P p) (P q) (P r) := fun h => by subst h; refine ⟨?_, ?_, ?_⟩ <;> unfold cr <;> grind
  -- what lies below one side lies below another
  have f1 : cr (P p) (P q) (P v) < 0 → (P p).x ≤ (P v).x → 0 < cr (P r) (P p) (P v) := fun hlt hx => by
    have a1 := Int.mul_neg_of_pos_of_neg (show 0 < (P r).x - (P p).x by omega) hlt
    have a2 := Int.mul_nonneg (show 0 ≤ (P v).x - (P p).x by omega) (show 0 ≤ cr (P p) (P q) (P r) by omega)
    rw [Int.mul_neg, Int.mul_neg] at i1
    exact ps_of (k := (P q).x - (P p).x) (by omega) (by omega)
  have f2 : cr (P q) (P r) (P v) < 0 → (P v).x < (P r).x → (P q).x < (P r).x → 0 < cr (P r) (P p) (P v) := fun hlt hx hx2 => by
    have a1 := Int.mul_neg_of_neg_of_pos (show (P p).x - (P r).x < 0 by omega) (show 0 < -cr (P q) (P r) (P v) by omega)
    have a2 := Int.mul_neg_of_neg_of_pos (show (P v).x - (P r).x < 0 by omega) hc
    refine ps_of (k := (P r).x - (P q).x) (by omega) ?_
    have : ((P r).x - (P q).x) * cr (P r) (P p) (P v) = -(((P q).x - (P r).x) * cr (P r) (P p) (P v)) := by rw [← Int.neg_mul]; congr 1; omega
    omega
  have f3 : cr (P p) (P q) (P v) < 0 → (P v).x < (P q).x → (P r).x < (P q).x → 0 < cr (P q) (P r) (P v) := fun hlt hx hx2 => by
    have a1 := Int.mul_neg_of_neg_of_pos (show (P r).x - (P q).x < 0 by omega) (show 0 < -cr (P p) (P q) (P v) by omega)
    have a2 := Int.mul_neg_of_neg_of_pos (show (P v).x - (P q).x < 0 by omega) hc
    refine ps_of (k := (P q).x - (P p).x) (by omega) ?_
    have : ((P q).x - (P p).x) * cr (P q) (P r) (P v) = -(((P p).x - (P q).x) * cr (P q) (P r) (P v)) := by rw [← Int.neg_mul]; congr 1; omega
    omega
  clear i1 i2 i3 c1 c2 c3 c4 c5 c6
  unfold chi
  simp only
  generalize cr (P p) (P q) (P v) = A at *
  generalize cr (P q) (P r) (P v) = Bq at *
  generalize cr (P r) (P p) (P v) = C at *
  generalize cr (P p) (P q) (P r) = K at *
  by_cases hv : v = q
  · obtain ⟨z1, z2, z3⟩ := hvq hv
    subst hv
    refine ⟨?_, fun _ _ => ?_⟩ <;> (repeat' split) <;> omega
  · have hv' : (P v).x ≠ (P q).x := fun h => hv (hq h)
    refine ⟨?_, fun _ h => absurd h hv⟩
    rcases Int.lt_or_le (P q).x (P r).x with hqr | hqr
    · rcases Int.lt_or_le (P v).x (P q).x with hx | hx
      · rcases Int.lt_or_le (P v).x (P p).x with hxp | hxp
        · repeat' split
          all_goals omega
        · rcases Int.lt_or_le A 0 with hA | hA
          · have := f1 hA hxp
            repeat' split
            all_goals omega
          · repeat' split
            all_goals omega
      · rcases Int.lt_or_le (P v).x (P r).x with hxr | hxr
        · rcases Int.lt_or_le Bq 0 with hA | hA
          · have := f2 hA hxr hqr
            repeat' split
            all_goals omega
          · repeat' split
            all_goals omega
        · repeat' split
          all_goals omega
    · rcases Int.lt_or_le (P v).x (P r).x with hx | hx
      · rcases Int.lt_or_le (P v).x (P p).x with hxp | hxp
        · repeat' split
          all_goals omega
        · rcases Int.lt_or_le A 0 with hA | hA
          · have := f1 hA hxp
            repeat' split
            all_goals omega
          · repeat' split
            all_goals omega
      · rcases Int.lt_or_le (P v).x (P q).x with hxq | hxq
        · rcases Int.lt_or_le A 0 with hA | hA
          · have := f3 hA hxq (by omega)
            repeat' split
            all_goals omega
          · repeat' split
            all_goals omega
        · repeat' split
          all_goals omega
end
end Go.Me
end
/- Chapter 6 in plain Lean: how many triangles a net has. -/
section
set_option linter.unusedSimpArgs false
set_option linter.unusedVariables false
namespace Go.Me
theorem max_ex {R : Nat → Nat → Prop} (ht : ∀ a b c, R a b → R b c → R a c) (hi : ∀ a, ¬ R a a) : ∀ L : List Nat, L ≠ [] → ∃ p ∈ L, ∀ q ∈ L, ¬ R p q
  | [], h => absurd rfl h
  | a :: L, _ => by
    by_cases hL : L = []
    · subst hL
      exact ⟨a, by simp, fun q hq => by simp at hq; subst hq; exact hi q⟩
    · obtain ⟨p, hp, hm⟩ := max_ex ht hi L hL
      by_cases h : R p a
      · refine ⟨a, by simp, fun q hq => ?_⟩
        rcases List.mem_cons.1 hq with rfl | hq
        · exact hi q
        · exact fun haq => hm q hq (ht _ _ _ h haq)
      · refine ⟨p, by simp [hp], fun q hq => ?_⟩
        rcases List.mem_cons.1 hq with rfl | hq
        · exact h
        · exact hm q hq
section
variable (P : Nat → Pn) (n : Nat)
structure TriOk (t : Tri) : Prop where
  l1 : t.1 < n
  l2 : t.2.1 < n
  l3 : t.2.2 < n
  pos : 0 < cr (P t.1) (P t.2.1) (P t.2.2)
end
section
variable {P : Nat → Pn} {n : Nat}
theorem TriOk.rot {p q r : Nat} (h : TriOk P n (p, q, r)) : TriOk P n (q, r, p) := ⟨h.l2, h.l3, h.l1, by have := h.pos; rw [← cr_rot] at this; exact this⟩
theorem TriOk.xs (hg : Gen P n) {p q r : Nat} (h : TriOk P n (p, q, r)) : (P p).x ≠ (P q).x ∧ (P q).x ≠ (P r).x ∧ (P r).x ≠ (P p).x := by
  obtain ⟨h1, h2, h3⟩ := cr_pos_ne h.pos
  exact ⟨fun e => h1 (by rw [show p = q from hg.inj _ _ h.l1 h.l2 e]), fun e => h2 (by rw [show q = r from hg.inj _ _ h.l2 h.l3 e]), fun e => h3 (by rw [show r = p from hg.inj _ _ h.l3 h.l1 e])⟩
theorem in_up (hg : Gen P n) {v : Nat} (hv : v < n) {t : Tri} (ht : TriOk P n t) : uppI P v t ≤ su (ed3 t) (chi P v) := by
  obtain ⟨p, q, r⟩ := t
  -- the least corner first
  have key : ∀ p q r, TriOk P n (p, q, r) → (P p).x < (P q).x → (P p).x < (P r).x → uppI P v (p, q, r) ≤ su (ed3 (p, q, r)) (chi P v) := fun p q r h h1 h2 => by
    obtain ⟨a, b⟩ := in_min (v := v) h1 h2 (h.xs hg).2.1 h.pos (hg.inj _ _ hv h.l2) (hg.inj _ _ hv h.l3) (hg.inj _ _ hv h.l1)
    have u : uppI P v (p, q, r) = if q = v ∧ (P q).x < (P r).x then 1 else 0 := by
      unfold uppI upF
      simp only
      by_cases hq : q = v
      · subst hq
        repeat' split
        all_goals (first | omega | (exfalso; omega))
      · by_cases hp : p = v
        · subst hp
          repeat' split
          all_goals omega
        · by_cases hr : r = v
          · subst hr
            repeat' split
            all_goals omega
          · simp [hq, hp, hr]
    rw [u]
    split
    · rename_i hh; exact b hh.2 hh.1.symm
    · exact a
  have rs : su (ed3 (p, q, r)) (chi P v) = su (ed3 (q, r, p)) (chi P v) := by rw [su_ed3, su_ed3]; simp only; omega
  have rs2 : su (ed3 (p, q, r)) (chi P v) = su (ed3 (r, p, q)) (chi P v) := by rw [su_ed3, su_ed3]; simp only; omega
  have ru : uppI P v (p, q, r) = uppI P v (q, r, p) := by unfold uppI; simp only; omega
  have ru2 : uppI P v (p, q, r) = uppI P v (r, p, q) := by unfold uppI; simp only; omega
  obtain ⟨x1, x2, x3⟩ := ht.xs hg
  by_cases h1 : (P p).x < (P q).x ∧ (P p).x < (P r).x
  · exact key p q r ht h1.1 h1.2
  · by_cases h2 : (P q).x < (P r).x ∧ (P q).x < (P p).x
    · rw [rs, ru]
      exact key q r p ht.rot h2.1 h2.2
    · rw [rs2, ru2]
      exact key r p q ht.rot.rot (by omega) (by omega)
theorem gen_mr (hg : Gen P n) : Gen (mr P) n := by
  refine ⟨hg.inj, ?_⟩
  obtain ⟨i, j, k, hi, hj, hk, hne⟩ := hg.nf
  exact ⟨j, i, k, hj, hi, hk, by rw [cr_mr]; exact hne⟩
theorem in_dn (hg : Gen P n) {v : Nat} (hv : v < n) {t : Tri} (ht : TriOk P n t) : dnI P v t ≤ su (ed3 t) (chd P v) := by
  obtain ⟨p, q, r⟩ := t
  have ht' : TriOk (mr P) n (p, r, q) := ⟨ht.l1, ht.l3, ht.l2, by
    have := cr_mr P q p r
    have h2 := cr_neg (P p) (P q) (P r)
    have h3 : cr (mr P p) (mr P r) (mr P q) = -cr (mr P p) (mr P q) (mr P r) := by unfold cr; grind
    have := ht.pos
    show 0 < cr (mr P p) (mr P r) (mr P q)
    rw [h3]
    have h4 := cr_mr P q p r
    rw [h4]
    simp only at this
    omega⟩
  have h := in_up (gen_mr hg) hv ht'
  have e1 : uppI (mr P) v (p, r, q) = dnI P v (p, q, r) := by
    unfold uppI dnI upF dnF mr
    simp only
    repeat' split
    all_goals omega
  have e2 : su (ed3 (p, r, q)) (chi (mr P) v) = su (ed3 (p, q, r)) (chd P v) := by
    rw [su_ed3, su_ed3, chd_mr, chd_mr, chd_mr]
    unfold sw
    simp only
    omega
  rw [e1, e2] at h
  exact h
theorem up_dn (hg : Gen P n) {v : Nat} (hv : v < n) {t : Tri} (ht : TriOk P n t) : uppI P v t - dnI P v t = su (ed3 t) (gOI P v) := by
  obtain ⟨p, q, r⟩ := t
  obtain ⟨x1, x2, x3⟩ := ht.xs hg
  rw [su_ed3]
  unfold uppI dnI upF dnF gOI
  simp only
  (try simp only at x1 x2 x3)
  by_cases h1 : p = v
  · subst h1
    have n1 : q ≠ p := fun h => x1 (by rw [h])
    have n2 : r ≠ p := fun h => x3 (by rw [h])
    simp only [n1, n2, false_and, true_and, if_false]
    repeat' split
    all_goals omega
  · by_cases h2 : q = v
    · subst h2
      have n2 : r ≠ q := fun h => x2 (by rw [h])
      simp only [h1, n2, false_and, true_and, if_false]
      repeat' split
      all_goals omega
    · by_cases h3 : r = v
      · subst h3
        simp only [h1, h2, false_and, true_and, if_false]
        repeat' split
        all_goals omega
      · simp [h1, h2, h3]
theorem edge_tri {ts : List Tri} (hT : ∀ t ∈ ts, TriOk P n t) {e : Ed} (he : e ∈ edT ts) : ∃ t ∈ ts, ∃ c, c < n ∧ (e.2, c) ∈ ed3 t ∧ (c, e.1) ∈ ed3 t ∧ TriOk P n (e.1, e.2, c) ∧ ∀ v, upF P v e.1 e.2 c ≤ uppI P v t ∧ dnF P v e.1 e.2 c ≤ dnI P v t := by
  obtain ⟨⟨p, q, r⟩, ht, hh⟩ := edT_mem.1 he
  have h := hT _ ht
  have nu : ∀ v a b c, 0 ≤ upF P v a b c ∧ 0 ≤ dnF P v a b c := fun v a b c => by unfold upF dnF; constructor <;> (split <;> omega)
  rcases hh with rfl | rfl | rfl
  · refine ⟨_, ht, r, h.l3, by simp [ed3], by simp [ed3], h, fun v => ?_⟩
    have a := nu v q r p; have b := nu v r p q
    unfold uppI dnI
    simp only
    omega
  · refine ⟨_, ht, p, h.l1, by simp [ed3], by simp [ed3], h.rot, fun v => ?_⟩
    have a := nu v p q r; have b := nu v r p q
    unfold uppI dnI
    simp only
    omega
  · refine ⟨_, ht, q, h.l2, by simp [ed3], by simp [ed3], h.rot.rot, fun v => ?_⟩
    have a := nu v p q r; have b := nu v q r p
    unfold uppI dnI
    simp only
    omega
end
end Go.Me
end
/- Chapter 6 in plain Lean: a right net of n points, with h edges on its border, has 2 n - h - 2 triangles. -/
section
set_option linter.unusedSimpArgs false
set_option linter.unusedVariables false
namespace Go.Me
section
variable {P : Nat → Pn} {n : Nat} {ts : List Tri}
theorem su_tri_e (ts : List Tri) (f : Ed → Int) : su (edT ts) f = su ts fun t => su (ed3 t) f := by unfold edT; rw [su_flat]
theorem up_one (hg : Gen P n) (hT : ∀ t ∈ ts, TriOk P n t) (hn : (edT ts).Nodup) {v : Nat} (hv : v < n) (hU : U P (bd (edT ts)) (P v).x ≤ 1) : su ts (uppI P v) ≤ 1 := by
  have h1 := su_le (l := ts) (f := uppI P v) (g := fun t => su (ed3 t) (chi P v)) fun t ht => in_up hg hv (hT t ht)
  rw [← su_tri_e, su_bd hn (anti_chi v)] at h1
  have h2 : su (bd (edT ts)) (chi P v) ≤ U P (bd (edT ts)) (P v).x := su_le fun e _ => by
    unfold chi sp
    repeat' split
    all_goals omega
  omega
theorem dn_one (hg : Gen P n) (hT : ∀ t ∈ ts, TriOk P n t) (hn : (edT ts).Nodup) {v : Nat} (hv : v < n) (hU : Lo P (bd (edT ts)) (P v).x ≤ 1) : su ts (dnI P v) ≤ 1 := by
  have h1 := su_le (l := ts) (f := dnI P v) (g := fun t => su (ed3 t) (chd P v)) fun t ht => in_dn hg hv (hT t ht)
  rw [← su_tri_e, su_bd hn (anti_chd v)] at h1
  have h2 : su (bd (edT ts)) (chd P v) ≤ Lo P (bd (edT ts)) (P v).x := su_le fun e _ => by
    show chd P v e ≤ if (P e.1).x ≤ (P v).x ∧ (P v).x < (P e.2).x then 1 else 0
    unfold chd
    repeat' split
    all_goals omega
  omega
theorem updn_nn (v : Nat) (t : Tri) : 0 ≤ uppI P v t ∧ 0 ≤ dnI P v t := by
  unfold uppI dnI upF dnF
  constructor <;> (repeat' split) <;> omega
theorem inner_mid (hg : Gen P n) (hT : ∀ t ∈ ts, TriOk P n t) {v : Nat} (hv : v < n) (hin : ∀ e ∈ bd (edT ts), e.1 ≠ v ∧ e.2 ≠ v) (hu : ∃ t ∈ ts, v = t.1 ∨ v = t.2.1 ∨ v = t.2.2) : 0 < su ts (fun t => uppI P v t + dnI P v t) := by
  apply Classical.byContradiction
  intro hz
  have nn : ∀ t ∈ ts, 0 ≤ uppI P v t + dnI P v t := fun t _ => by have := updn_nn (P := P) v t; omega
  have zero : ∀ t ∈ ts, uppI P v t = 0 ∧ dnI P v t = 0 := fun t ht => by
    have h1 := su_mem nn ht
    have h2 := updn_nn (P := P) v t
    omega
  -- from each neighbour to the next one, on the same side
  have step : ∀ p, (v, p) ∈ edT ts → ∃ q, (v, q) ∈ edT ts ∧ 0 < cr (P v) (P p) (P q) ∧ ((P v).x < (P p).x → (P v).x < (P q).x) ∧ ((P p).x < (P v).x → (P q).x < (P v).x) := fun p hp => by
    obtain ⟨t, ht, c, hcn, h1, h2, hok, hle⟩ := edge_tri hT hp
    obtain ⟨z1, z2⟩ := zero t ht
    obtain ⟨l1, l2⟩ := hle v
    obtain ⟨x1, x2, x3⟩ := hok.xs hg
    simp only at x1 x2 x3 l1 l2
    have hcv : (c, v) ∈ edT ts := List.mem_flatMap.2 ⟨t, ht, h2⟩
    have hvc : (v, c) ∈ edT ts := by
      apply Classical.byContradiction
      intro hno
      exact (hin (c, v) (bd_mem.2 ⟨hcv, hno⟩)).2 rfl
    refine ⟨c, hvc, hok.pos, fun hx => ?_, fun hx => ?_⟩
    · apply Classical.byContradiction
      intro hn
      have : upF P v v p c = 1 := by unfold upF; rw [if_pos ⟨rfl, hx, by omega⟩]
      omega
    · apply Classical.byContradiction
      intro hn
      have : dnF P v v p c = 1 := by unfold dnF; rw [if_pos ⟨rfl, hx, by omega⟩]
      omega
  have some : ∃ p, (v, p) ∈ edT ts := by
    obtain ⟨t, ht, h | h | h⟩ := hu
    · exact ⟨t.2.1, edT_mem.2 ⟨t, ht, .inl (by rw [h])⟩⟩
    · exact ⟨t.2.2, edT_mem.2 ⟨t, ht, .inr (.inl (by rw [h]))⟩⟩
    · exact ⟨t.1, edT_mem.2 ⟨t, ht, .inr (.inr (by rw [h]))⟩⟩
  obtain ⟨p, hp⟩ := some
  have hpx : (P v).x ≠ (P p).x := by
    obtain ⟨t, ht, c, hcn, h1, h2, hok, hle⟩ := edge_tri hT hp
    exact (hok.xs hg).1
  -- a neighbour than which none is further round
  have fin : ∀ side : Nat → Prop, (∀ q r s, side q → side r → side s → 0 < cr (P v) (P q) (P r) → 0 < cr (P v) (P r) (P s) → 0 < cr (P v) (P q) (P s)) → (∀ p, (v, p) ∈ edT ts → side p → ∃ q, (v, q) ∈ edT ts ∧ 0 < cr (P v) (P p) (P q) ∧ side q) → side p → False := by
    intro side htr hst hs
    let L := ((edT ts).filter fun e => decide (e.1 = v)).map fun e => e.2
    have hL : ∀ q, q ∈ L ↔ (v, q) ∈ edT ts := fun q => by
      simp only [L, List.mem_map, List.mem_filter, decide_eq_true_eq]
      constructor
      · rintro ⟨e, ⟨he, rfl⟩, rfl⟩; exact he
      · intro h; exact ⟨(v, q), ⟨h, rfl⟩, rfl⟩
    obtain ⟨a, ha, hmax⟩ := max_ex (R := fun a b => side a ∧ side b ∧ 0 < cr (P v) (P a) (P b)) (fun a b c h1 h2 => ⟨h1.1, h2.2.1, htr a b c h1.1 h1.2.1 h2.2.1 h1.2.2 h2.2.2⟩) (fun a h => by have := h.2.2; rw [cr_self] at this; omega) L (fun h => by
      have := (hL p).2 hp
      rw [h] at this
      simp at this)
    by_cases hsa : side a
    · obtain ⟨q, h1, h2, h3⟩ := hst a ((hL a).1 ha) hsa
      exact hmax q ((hL q).2 h1) ⟨hsa, h3, h2⟩
    · -- the greatest is not on this side: then start anew among those of this side
      let L' := L.filter fun q => @decide (side q) (Classical.propDecidable _)
      have hL' : ∀ q, q ∈ L' ↔ (v, q) ∈ edT ts ∧ side q := fun q => by
        simp only [L', List.mem_filter, decide_eq_true_eq, hL]
      obtain ⟨b, hb, hmb⟩ := max_ex (R := fun a b => side a ∧ side b ∧ 0 < cr (P v) (P a) (P b)) (fun a b c h1 h2 => ⟨h1.1, h2.2.1, htr a b c h1.1 h1.2.1 h2.2.1 h1.2.2 h2.2.2⟩) (fun a h => by have := h.2.2; rw [cr_self] at this; omega) L' (fun h => by
        have := (hL' p).2 ⟨hp, hs⟩
        rw [h] at this
        simp at this)
      obtain ⟨hb1, hb2⟩ := (hL' b).1 hb
      obtain ⟨q, h1, h2, h3⟩ := hst b hb1 hb2
      exact hmb q ((hL' q).2 ⟨h1, h3⟩) ⟨hb2, h3, h2⟩
  rcases Int.lt_or_le (P v).x (P p).x with hx | hx
  · refine fin (fun q => (P v).x < (P q).x) (fun q r s h1 h2 h3 c1 c2 => ?_) (fun p hp hs => ?_) hx
    · have := vec3 (P v) (P r) (P q) (P s)
      have e1 : cr (P v) (P r) (P q) = -cr (P v) (P q) (P r) := by unfold cr; grind
      have i := vec3 (P v) (P r) (P q) (P s)
      have a1 := Int.mul_pos (show 0 < (P q).x - (P v).x by omega) c2
      have a2 := Int.mul_pos (show 0 < (P s).x - (P v).x by omega) c1
      refine ps_of (k := (P r).x - (P v).x) (by omega) ?_
      have j : ((P r).x - (P v).x) * cr (P v) (P q) (P s) = ((P q).x - (P v).x) * cr (P v) (P r) (P s) + ((P s).x - (P v).x) * cr (P v) (P q) (P r) := by unfold cr; grind
      omega
    · obtain ⟨q, h1, h2, h3, h4⟩ := step p hp
      exact ⟨q, h1, h2, h3 hs⟩
  · refine fin (fun q => (P q).x < (P v).x) (fun q r s h1 h2 h3 c1 c2 => ?_) (fun p hp hs => ?_) (by omega)
    · have a1 := Int.mul_neg_of_neg_of_pos (show (P q).x - (P v).x < 0 by omega) c2
      have a2 := Int.mul_neg_of_neg_of_pos (show (P s).x - (P v).x < 0 by omega) c1
      refine ps_of (k := (P v).x - (P r).x) (by omega) ?_
      have j : ((P v).x - (P r).x) * cr (P v) (P q) (P s) = -(((P q).x - (P v).x) * cr (P v) (P r) (P s)) - ((P s).x - (P v).x) * cr (P v) (P q) (P r) := by unfold cr; grind
      omega
    · obtain ⟨q, h1, h2, h3, h4⟩ := step p hp
      exact ⟨q, h1, h2, h4 hs⟩
def od (S : List Ed) (v : Nat) : Int := su S fun e => if e.1 = v then 1 else 0
theorem no_both (hg : Gen P n) {S : List Ed} (hs : ∀ e ∈ S, Sup P n e) {m M v : Nat} (hm : m < n) (hM : M < n) (h1 : (P m).x < (P v).x) (h2 : (P v).x < (P M).x) {e e' : Ed} (he : e ∈ S) (he' : e' ∈ S) (hu : (P e.2).x < (P e.1).x) (hl : (P e'.1).x < (P e'.2).x) (hv1 : v = e.1 ∨ v = e.2) (hv2 : v = e'.1 ∨ v = e'.2) : False := by
  have s := hs e he
  have s' := hs e' he'
  obtain ⟨i, j, k, hi, hj, hk, hne⟩ := hg.nf
  have z : ∀ q, q < n → cr (P e.1) (P e.2) (P q) = 0 := fun q hq =>
    wedge (v := P v) (m := P m) (M := P M) hu hl (hv1.imp (congrArg P) (congrArg P)) (hv2.imp (congrArg P) (congrArg P)) h1 h2 (s.at_ m hm) (s.at_ M hM) (s.at_ q hq) (s'.at_ m hm) (s'.at_ M hM) (s'.at_ q hq)
  refine hne (flat_of (a := P e.1) (b := P e.2) (fun h => ?_) (z i hi) (z j hj) (z k hk))
  rw [h] at hu
  omega
end
end Go.Me
end
/- Chapter 6 in plain Lean: a right net of n points, with h edges on its border, has 2 n - h - 2 triangles: the count. -/
section
set_option linter.unusedSimpArgs false
set_option linter.unusedVariables false
namespace Go.Me
section
variable {P : Nat → Pn} {n : Nat} {ts : List Tri}
theorem at_corner (hg : Gen P n) (hT : ∀ t ∈ ts, TriOk P n t) (hn : (edT ts).Nodup) (hS : ∀ e ∈ bd (edT ts), Sup P n e) {m M : Nat} (hm : m < n) (hM : M < n) (hmin : ∀ v, v < n → (P m).x ≤ (P v).x) (hmax : ∀ v, v < n → (P v).x ≤ (P M).x)
    (hw : U P (bd (edT ts)) (P m).x = 1) (hu : ∀ v, v < n → ∃ t ∈ ts, v = t.1 ∨ v = t.2.1 ∨ v = t.2.2) {v : Nat} (hv : v < n) :
    su ts (uppI P v) + su ts (dnI P v) = 2 - od (bd (edT ts)) v - (if v = m then 1 else 0) - (if v = M then 1 else 0) := by
  have hb := bal_bd hn
  have hd : su ts (uppI P v) - su ts (dnI P v) = su (bd (edT ts)) (gOI P v) := by
    rw [← su_sub, su_congr fun t ht => up_dn hg hv (hT t ht), ← su_tri_e, su_bd hn (anti_gOI v)]
  have up1 := up_one (v := v) hg hT hn hv
  have dn1 := dn_one (v := v) hg hT hn hv
  have nnu : 0 ≤ su ts (uppI P v) := su_nn fun t _ => (updn_nn v t).1
  have nnd : 0 ≤ su ts (dnI P v) := su_nn fun t _ => (updn_nn v t).2
  have inn := inner_mid hg hT hv (hu := hu v hv)
  rw [su_add] at inn
  have hxm : (P m).x < (P M).x := by
    obtain ⟨i, j, k, hi, hj, hk, hne⟩ := hg.nf
    apply Classical.byContradiction
    intro hx
    have all : ∀ v, v < n → v = m := fun v hv => hg.inj v m hv hm (by have := hmin v hv; have := hmax v hv; omega)
    refine hne ?_
    rw [all i hi, all j hj, all k hk]
    exact cr_self _ _
  have hmM : m ≠ M := fun h => by rw [h] at hxm; omega
  generalize hSe : bd (edT ts) = S at *
  have hUc : ∀ c, (P m).x ≤ c → c < (P M).x → U P S c = 1 := fun c h1 h2 => by rw [U_eq hg hb hS hm hM h1 h2, hw]
  have hLc : ∀ c, (P m).x ≤ c → c < (P M).x → Lo P S c = 1 := fun c h1 h2 => by rw [← U_Lo hb, hUc c h1 h2]
  by_cases hvm : v = m
  · subst hvm
    have z1 : su ts (uppI P v) = 0 := by
      rw [su_congr (g := fun _ => 0) fun t ht => ?_, su_zero]
      have o := hT t ht
      have q1 := hmin _ o.l1
      have q2 := hmin _ o.l2
      have q3 := hmin _ o.l3
      unfold uppI upF
      rw [if_neg (by omega), if_neg (by omega), if_neg (by omega)]
      rfl
    have z2 : su ts (dnI P v) = 0 := by
      rw [su_congr (g := fun _ => 0) fun t ht => ?_, su_zero]
      have o := hT t ht
      have q1 := hmin _ o.l1
      have q2 := hmin _ o.l2
      have q3 := hmin _ o.l3
      unfold dnI dnF
      rw [if_neg (by omega), if_neg (by omega), if_neg (by omega)]
      rfl
    have o1 : od S v = 1 := by
      rw [← hLc (P v).x (Int.le_refl _) hxm]
      unfold od Lo
      refine su_congr fun e he => ?_
      have s := hS e he
      have q1 := hmin _ s.l1
      have q2 := hmin _ s.l2
      show _ = if (P e.1).x ≤ (P v).x ∧ (P v).x < (P e.2).x then (1 : Int) else 0
      by_cases h : e.1 = v
      · have : (P e.2).x ≠ (P v).x := fun hx => s.ne (h.trans (hg.inj _ _ s.l2 hv hx).symm)
        rw [if_pos h, if_pos ⟨by rw [h]; exact Int.le_refl _, by omega⟩]
      · have : (P e.1).x ≠ (P v).x := fun hx => h (hg.inj _ _ s.l1 hv hx)
        rw [if_neg h, if_neg (by omega)]
    rw [z1, z2, o1, if_pos rfl, if_neg hmM]
    rfl
  · by_cases hvM : v = M
    · subst hvM
      have z1 : su ts (uppI P v) = 0 := by
        rw [su_congr (g := fun _ => 0) fun t ht => ?_, su_zero]
        have o := hT t ht
        have q1 := hmax _ o.l1
        have q2 := hmax _ o.l2
        have q3 := hmax _ o.l3
        unfold uppI upF
        rw [if_neg (by omega), if_neg (by omega), if_neg (by omega)]
        rfl
      have z2 : su ts (dnI P v) = 0 := by
        rw [su_congr (g := fun _ => 0) fun t ht => ?_, su_zero]
        have o := hT t ht
        have q1 := hmax _ o.l1
        have q2 := hmax _ o.l2
        have q3 := hmax _ o.l3
        unfold dnI dnF
        rw [if_neg (by omega), if_neg (by omega), if_neg (by omega)]
        rfl
      have o1 : od S v = 1 := by
        rw [← hUc ((P v).x - 1) (by omega) (by omega)]
        unfold od U
        refine su_congr fun e he => ?_
        have s := hS e he
        have q1 := hmax _ s.l1
        have q2 := hmax _ s.l2
        show _ = if (P e.2).x ≤ (P v).x - 1 ∧ (P v).x - 1 < (P e.1).x then (1 : Int) else 0
        by_cases h : e.1 = v
        · have : (P e.2).x ≠ (P v).x := fun hx => s.ne (h.trans (hg.inj _ _ s.l2 hv hx).symm)
          rw [if_pos h, if_pos ⟨by omega, by rw [h]; omega⟩]
        · have : (P e.1).x ≠ (P v).x := fun hx => h (hg.inj _ _ s.l1 hv hx)
          rw [if_neg h, if_neg (by omega)]
      rw [z1, z2, o1, if_neg hvm, if_pos rfl]
      rfl
    · have x1 : (P m).x < (P v).x := by
        have := hmin v hv
        have : (P m).x ≠ (P v).x := fun h => hvm (hg.inj _ _ hm hv h).symm
        omega
      have x2 : (P v).x < (P M).x := by
        have := hmax v hv
        have : (P v).x ≠ (P M).x := fun h => hvM (hg.inj _ _ hv hM h)
        omega
      have up1' := up1 (by rw [hUc _ (by omega) x2]; exact Int.le_refl _)
      have dn1' := dn1 (by rw [hLc _ (by omega) x2]; exact Int.le_refl _)
      rw [if_neg hvm, if_neg hvM]
      let OL := su S fun e => if e.1 = v ∧ (P v).x < (P e.2).x then (1 : Int) else 0
      let IU := su S fun e => if e.2 = v ∧ (P v).x < (P e.1).x then (1 : Int) else 0
      let OU := su S fun e => if e.1 = v ∧ (P e.2).x < (P v).x then (1 : Int) else 0
      let IL := su S fun e => if e.2 = v ∧ (P e.1).x < (P v).x then (1 : Int) else 0
      have hgo : su S (gOI P v) = OL - IU := by
        simp only [OL, IU]
        rw [← su_sub]
        rfl
      have hod : od S v = OL + OU := by
        simp only [OL, OU]
        unfold od
        rw [← su_add]
        refine su_congr fun e he => ?_
        have s := hS e he
        have : e.1 = v → (P e.2).x ≠ (P v).x := fun h hx => s.ne (h.trans (hg.inj _ _ s.l2 hv hx).symm)
        by_cases h : e.1 = v
        · have := this h
          rw [if_pos h]
          rcases Int.lt_or_le (P v).x (P e.2).x with hx | hx
          · rw [if_pos ⟨h, hx⟩, if_neg (fun q => by have := q.2; omega)]; rfl
          · rw [if_neg (fun q => by have := q.2; omega), if_pos ⟨h, by omega⟩]; rfl
        · simp [h]
      have hid : (su S fun e => if e.2 = v then (1 : Int) else 0) = IU + IL := by
        simp only [IU, IL]
        rw [← su_add]
        refine su_congr fun e he => ?_
        have s := hS e he
        have : e.2 = v → (P e.1).x ≠ (P v).x := fun h hx => s.ne ((hg.inj _ _ s.l1 hv hx).trans h.symm)
        by_cases h : e.2 = v
        · have := this h
          rw [if_pos h]
          rcases Int.lt_or_le (P v).x (P e.1).x with hx | hx
          · rw [if_pos ⟨h, hx⟩, if_neg (fun q => by have := q.2; omega)]; rfl
          · rw [if_neg (fun q => by have := q.2; omega), if_pos ⟨h, by omega⟩]; rfl
        · simp [h]
      have hbal : od S v = su S fun e => if e.2 = v then (1 : Int) else 0 := by
        have := hb fun w => if w = v then 1 else 0
        rw [su_sub] at this
        unfold od
        omega
      have hOL : OL ≤ 1 := by
        rw [← hLc (P v).x (by omega) x2]
        refine su_le fun e he => ?_
        show _ ≤ if (P e.1).x ≤ (P v).x ∧ (P v).x < (P e.2).x then (1 : Int) else 0
        by_cases h : e.1 = v ∧ (P v).x < (P e.2).x
        · rw [if_pos h, if_pos ⟨by rw [h.1]; exact Int.le_refl _, h.2⟩]; exact Int.le_refl _
        · rw [if_neg h]; split <;> omega
      have hIU : IU ≤ 1 := by
        rw [← hUc (P v).x (by omega) x2]
        refine su_le fun e he => ?_
        show _ ≤ if (P e.2).x ≤ (P v).x ∧ (P v).x < (P e.1).x then (1 : Int) else 0
        by_cases h : e.2 = v ∧ (P v).x < (P e.1).x
        · rw [if_pos h, if_pos ⟨by rw [h.1]; exact Int.le_refl _, h.2⟩]; exact Int.le_refl _
        · rw [if_neg h]; split <;> omega
      have nn : ∀ p : Ed → Prop, [∀ e, Decidable (p e)] → 0 ≤ su S fun e => if p e then (1 : Int) else 0 := fun p _ => su_nn fun e _ => by split <;> omega
      have n1 : 0 ≤ OL := nn _
      have n2 : 0 ≤ IU := nn _
      have n3 : 0 ≤ OU := nn _
      have n4 : 0 ≤ IL := nn _
      -- something positive has an edge
      have ex : ∀ p : Ed → Prop, [∀ e, Decidable (p e)] → 0 < (su S fun e => if p e then (1 : Int) else 0) → ∃ e ∈ S, p e := fun p _ h => by
        apply Classical.byContradiction
        intro hn
        rw [su_congr (g := fun _ => 0) fun e he => if_neg fun hp => hn ⟨e, he, hp⟩, su_zero] at h
        omega
      have both : ¬ ((0 < OU ∨ 0 < IU) ∧ (0 < OL ∨ 0 < IL)) := fun ⟨ha, hb⟩ => by
        have a : ∃ e ∈ S, (P e.2).x < (P e.1).x ∧ (v = e.1 ∨ v = e.2) := by
          rcases ha with h | h
          · obtain ⟨e, he, h1, h2⟩ := ex _ h; exact ⟨e, he, by rw [h1]; exact h2, .inl h1.symm⟩
          · obtain ⟨e, he, h1, h2⟩ := ex _ h; exact ⟨e, he, by rw [h1]; exact h2, .inr h1.symm⟩
        have b : ∃ e ∈ S, (P e.1).x < (P e.2).x ∧ (v = e.1 ∨ v = e.2) := by
          rcases hb with h | h
          · obtain ⟨e, he, h1, h2⟩ := ex _ h; exact ⟨e, he, by rw [h1]; exact h2, .inl h1.symm⟩
          · obtain ⟨e, he, h1, h2⟩ := ex _ h; exact ⟨e, he, by rw [h1]; exact h2, .inr h1.symm⟩
        obtain ⟨e, he, q1, q2⟩ := a
        obtain ⟨e', he', q1', q2'⟩ := b
        exact no_both hg hS hm hM x1 x2 he he' q1 q1' q2 q2'
      have hinn : OL + OU = 0 → 0 < su ts (uppI P v) + su ts (dnI P v) := fun h0 => inn fun e he => by
        constructor
        · intro h
          have : (1 : Int) ≤ od S v := by
            have := su_mem (l := S) (f := fun e => if e.1 = v then (1 : Int) else 0) (fun e _ => by split <;> omega) he
            rw [if_pos h] at this
            exact this
          omega
        · intro h
          have : (1 : Int) ≤ su S fun e => if e.2 = v then (1 : Int) else 0 := by
            have := su_mem (l := S) (f := fun e => if e.2 = v then (1 : Int) else 0) (fun e _ => by split <;> omega) he
            rw [if_pos h] at this
            exact this
          omega
      rw [hgo] at hd
      rw [hod]
      rw [hod, hid] at hbal
      generalize OL = OL at *
      generalize OU = OU at *
      generalize IL = IL at *
      generalize IU = IU at *
      by_cases h0 : OL + OU = 0
      · have := hinn h0
        omega
      · omega
end
end Go.Me
end
