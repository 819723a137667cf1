/- Chapter 6 in plain Lean: what a balanced border encloses, in all. -/
import Derived.Test.YtmohcmghbfhdlaaGreatRd
import Derived.Test.YtmohcmghbfhdlaaGreatQe
import Derived.Test.YtmohcmghbfhdlaaGreatQy
import Derived.Test.YtmohcmghbfhdlaaGreatRc
import Derived.Test.YtmohcmghbfhdlaaGreatQs
section
set_option linter.unusedSimpArgs false
set_option linter.unusedVariables false
namespace Go.Me
def mr (P : Nat → Pn) : Nat → Pn := fun i => ⟨(P i).x, -(P i).y⟩
theorem cr_mr (P : Nat → Pn) (i j k : Nat) : cr (mr P j) (mr P i) (mr P k) = cr (P i) (P j) (P k) := by unfold cr mr; grind
def ar (P : Nat → Pn) (S : List Ed) : Int := su S fun e => (P e.1).x * (P e.2).y - (P e.1).y * (P e.2).x
section
variable {P : Nat → Pn} {n : Nat} {S : List Ed}
theorem sup_mr {e : Ed} (h : Sup P n e) : Sup (mr P) n (sw e) := ⟨h.l2, h.l1, fun x => h.ne x.symm, fun q hq => by
 show 0 ≤ cr (mr P e.2) (mr P e.1) (mr P q)
 rw [cr_mr]
 exact h.at_ q hq⟩
theorem U_mr (c : Int) : U (mr P) (S.map sw) c = Lo P S c := by
 unfold U Lo
 rw [su_map]
 rfl
theorem ar_tU (hg : Gen P n) (hb : Bal S) (hs : ∀ e ∈ S, Sup P n e) : ar P S = tU P S + tU (mr P) (S.map sw) := by
 have h1 : su S (trz P) = ar P S := by
  have h := hb fun v => (P v).x * (P v).y
  have e : su S (trz P) = su S (fun e => (P e.1).x * (P e.2).y - (P e.1).y * (P e.2).x) + su S fun e => (P e.1).x * (P e.1).y - (P e.2).x * (P e.2).y := by
   rw [← su_add]
   refine su_congr fun e _ => ?_
   unfold trz
   grind
  rw [e]
  unfold ar
  omega
 rw [← h1]
 unfold tU
 rw [su_map, ← su_add]
 refine su_congr fun e he => ?_
 have s := hs e he
 have hx : (P e.1).x ≠ (P e.2).x := fun h => s.ne (hg.inj _ _ s.l1 s.l2 h)
 show _ = (if (P e.2).x < (P e.1).x then trz P e else 0) + if (P e.1).x < (P e.2).x then trz (mr P) (sw e) else 0
 rcases Int.lt_or_le (P e.2).x (P e.1).x with h | h
 ·rw [if_pos h, if_neg (by omega)]; omega
 ·rw [if_neg (by omega), if_pos (by omega)]
  show trz P e = 0 + ((P e.2).x - (P e.1).x) * (-(P e.2).y + -(P e.1).y)
  unfold trz
  grind
theorem area_w {H : List Ed} (hg : Gen P n) (bS : Bal S) (bH : Bal H) (hS : ∀ e ∈ S, Sup P n e) (hH : ∀ e ∈ H, Sup P n e) {m M : Nat} (hmn : m < n) (hMn : M < n) (hm : ∀ v, v < n → (P m).x ≤ (P v).x) (hM : ∀ v, v < n → (P v).x ≤ (P M).x) :
  U P H (P m).x * ar P S = U P S (P m).x * ar P H := by
 obtain ⟨N, hN⟩ : ∃ N : Nat, (P M).x = (P m).x + N := ⟨((P M).x - (P m).x).toNat, by have := hm M hMn; omega⟩
 have hM' : ∀ v, v < n → (P v).x ≤ (P m).x + N := fun v hv => by have := hM v hv; omega
 have k : ∀ S : List Ed, Bal S → (∀ e ∈ S, Sup P n e) → ∀ c ∈ cols (P m).x N, U P S c = U P S (P m).x := fun S b h c hc => by
  obtain ⟨h1, h2⟩ := cols_mem hc
  exact U_eq hg b h hmn hMn h1 (by omega)
 have up := area_up hS hH hm hM' (k S bS hS) (k H bH hH)
 have sm : ∀ S : List Ed, (∀ e ∈ S, Sup P n e) → ∀ e ∈ S.map sw, Sup (mr P) n e := fun S h e he => by
  obtain ⟨x, hx, rfl⟩ := List.mem_map.1 he
  exact sup_mr (h x hx)
 have k' : ∀ S : List Ed, Bal S → (∀ e ∈ S, Sup P n e) → ∀ c ∈ cols (mr P m).x N, U (mr P) (S.map sw) c = U P S (P m).x := fun S b h c hc => by
  rw [U_mr, ← U_Lo b]
  exact k S b h c hc
 have lo := area_up (P := mr P) (sm S hS) (sm H hH) hm hM' (k' S bS hS) (k' H bH hH)
 rw [ar_tU hg bS hS, ar_tU hg bH hH, Int.mul_add, Int.mul_add, up, lo]
end
end Go.Me
end
/- Chapter 6 in plain Lean: a right net hangs together, and goes round the hull once. -/
section
set_option linter.unusedSimpArgs false
set_option linter.unusedVariables false
namespace Go.Me
def cyc (h : List Nat) : List Ed := h.zip (h.tail ++ h.take 1)
theorem su_zip_tail (f : Nat → Int) : ∀ (a : Nat) (r : List Nat) (z : Nat), su ((a :: r).zip (r ++ [z])) (fun e => f e.1 - f e.2) = f a - f z
 | a, [], z => by show f a - f z + 0 = _; omega
 | a, b :: r, z => by
  rw [List.cons_append, List.zip_cons_cons, su_cons, su_zip_tail f b r z]
  show f a - f b + (f b - f z) = _
  omega
theorem bal_cyc (h : List Nat) : Bal (cyc h) := fun f => by
 cases h with
 | nil => rfl
 | cons a r =>
  show su ((a :: r).zip (r ++ [a])) _ = 0
  rw [su_zip_tail]
  omega
def shr (B : Int) (l : List Pn) (i : Nat) : Pn := ⟨(2 * B + 1) * (pt l i).x + (pt l i).y, (pt l i).y⟩
theorem cr_shr (B : Int) (l : List Pn) (i j k : Nat) : cr (shr B l i) (shr B l j) (shr B l k) = (2 * B + 1) * cr (pt l i) (pt l j) (pt l k) := by unfold cr shr; grind
structure Net (B : Int) (l : List Pn) (ts : List Tri) (h : List Nat) : Prop where
 bnd : ∀ p ∈ l, -B ≤ p.y ∧ p.y ≤ B
 apart : Apart l
 rng : ∀ t ∈ ts, t.1 < l.length ∧ t.2.1 < l.length ∧ t.2.2 < l.length
 pos : ∀ t ∈ ts, 0 < cr (pt l t.1) (pt l t.2.1) (pt l t.2.2)
 nd : (edT ts).Nodup
 sup : ∀ e ∈ bd (edT ts), ∀ q, q < l.length → 0 ≤ cr (pt l e.1) (pt l e.2) (pt l q)
 ne : ts ≠ []
 hsup : ∀ e ∈ cyc h, e.1 < l.length ∧ e.2 < l.length ∧ e.1 ≠ e.2 ∧ ∀ q, q < l.length → 0 ≤ cr (pt l e.1) (pt l e.2) (pt l q)
 hone : ∃ m, m < l.length ∧ (∀ v, v < l.length → v = m ∨ lexLt (pt l m) (pt l v)) ∧ su (cyc h) (fun e => if e.2 = m then 1 else 0) = 1
 area : su ts (fun t => cr (pt l t.1) (pt l t.2.1) (pt l t.2.2)) = ar (pt l) (cyc h)
 used : ∀ i, i < l.length → ∃ t ∈ ts, i = t.1 ∨ i = t.2.1 ∨ i = t.2.2
section
variable {B : Int} {l : List Pn} {ts : List Tri} {h : List Nat}
theorem edT_sub {A ts : List Tri} (h : A.Sublist ts) : (edT A).Sublist (edT ts) := by
 unfold edT
 induction h with
 | slnil => exact .slnil
 | cons a _ ih => rw [List.flatMap_cons]; exact ih.trans (List.sublist_append_right _ _)
 | cons_cons a _ ih => rw [List.flatMap_cons, List.flatMap_cons]; exact ih.append_left _
theorem edT_mem {ts : List Tri} {e : Ed} : e ∈ edT ts ↔ ∃ t ∈ ts, e = (t.1, t.2.1) ∨ e = (t.2.1, t.2.2) ∨ e = (t.2.2, t.1) := by
 unfold edT
 rw [List.mem_flatMap]
 constructor
 ·rintro ⟨t, ht, he⟩
  exact ⟨t, ht, by simpa [ed3] using he⟩
 ·rintro ⟨t, ht, he⟩
  exact ⟨t, ht, by simpa [ed3] using he⟩
theorem cr_pos_ne {a b c : Pn} (h : 0 < cr a b c) : a ≠ b ∧ b ≠ c ∧ c ≠ a := by
 refine ⟨fun e => ?_, fun e => ?_, fun e => ?_⟩ <;> subst e <;> unfold cr at h <;> grind
theorem Net.edge (N : Net B l ts h) {e : Ed} (he : e ∈ edT ts) : e.1 < l.length ∧ e.2 < l.length ∧ e.1 ≠ e.2 := by
 obtain ⟨t, ht, hh⟩ := edT_mem.1 he
 obtain ⟨r1, r2, r3⟩ := N.rng t ht
 obtain ⟨n1, n2, n3⟩ := cr_pos_ne (N.pos t ht)
 rcases hh with rfl | rfl | rfl
 ·exact ⟨r1, r2, fun e => n1 (congrArg (pt l) e)⟩
 ·exact ⟨r2, r3, fun e => n2 (congrArg (pt l) e)⟩
 ·exact ⟨r3, r1, fun e => n3 (congrArg (pt l) e)⟩
theorem shr_lt (hb : ∀ p ∈ l, -B ≤ p.y ∧ p.y ≤ B) {i j : Nat} (hi : i < l.length) (hj : j < l.length) (h : lexLt (pt l i) (pt l j)) : (shr B l i).x < (shr B l j).x := by
 have := lex_ph (hb _ (pt_mem hi)) (hb _ (pt_mem hj)) h
 unfold ph at this
 show (2 * B + 1) * (pt l i).x + (pt l i).y < (2 * B + 1) * (pt l j).x + (pt l j).y
 omega
theorem lex_tri {p q : Pn} (h : p ≠ q) : lexLt p q ∨ lexLt q p := by
 unfold lexLt
 have : p.x ≠ q.x ∨ p.y ≠ q.y := by
  apply Classical.byContradiction
  intro hn
  rw [not_or] at hn
  refine h ?_
  cases p; cases q
  simp only [Pn.mk.injEq]
  simp only at hn
  omega
 omega
theorem Net.gen (N : Net B l ts h) : Gen (shr B l) l.length := by
 have hB : 0 ≤ B := by
  obtain ⟨m, hm, _⟩ := N.hone
  have := N.bnd _ (pt_mem hm)
  omega
 refine ⟨fun i j hi hj hx => ?_, ?_⟩
 ·apply Classical.byContradiction
  intro hne
  have hp : pt l i ≠ pt l j := fun h => hne (N.apart i j hi hj h)
  rcases lex_tri hp with h | h
  ·have := shr_lt N.bnd hi hj h; omega
  ·have := shr_lt N.bnd hj hi h; omega
 ·obtain ⟨t, r, ht⟩ := List.exists_cons_of_ne_nil N.ne
  have hm : t ∈ ts := by rw [ht]; simp
  obtain ⟨r1, r2, r3⟩ := N.rng t hm
  refine ⟨t.1, t.2.1, t.2.2, r1, r2, r3, ?_⟩
  rw [cr_shr]
  exact Int.mul_ne_zero (by omega) (by have := N.pos t hm; omega)
theorem sup_shr (hB : 0 ≤ B) {e : Ed} (h1 : e.1 < l.length) (h2 : e.2 < l.length) (h3 : e.1 ≠ e.2) (h4 : ∀ q, q < l.length → 0 ≤ cr (pt l e.1) (pt l e.2) (pt l q)) : Sup (shr B l) l.length e :=
 ⟨h1, h2, h3, fun q hq => by rw [cr_shr]; exact Int.mul_nonneg (by omega) (h4 q hq)⟩
theorem ar_shr (B : Int) (l : List Pn) (S : List Ed) : ar (shr B l) S = (2 * B + 1) * ar (pt l) S := by
 unfold ar
 rw [← su_mul]
 refine su_congr fun e _ => ?_
 unfold shr
 grind
theorem ar_tris (P : Nat → Pn) (ts : List Tri) : ar P (edT ts) = su ts fun t => cr (P t.1) (P t.2.1) (P t.2.2) := by
 unfold ar edT
 rw [su_flat]
 refine su_congr fun t _ => ?_
 rw [su_ed3]
 unfold cr
 grind
theorem anti_ar (P : Nat → Pn) : Anti fun e => (P e.1).x * (P e.2).y - (P e.1).y * (P e.2).x := fun e => by
 show (P e.2).x * (P e.1).y - (P e.2).y * (P e.1).x = -((P e.1).x * (P e.2).y - (P e.1).y * (P e.2).x)
 grind
def wnd (B : Int) (l : List Pn) (A : List Tri) (m : Nat) : Int := U (shr B l) (bd (edT A)) (shr B l m).x
theorem Net.wind (N : Net B l ts h) {A : List Tri} (hA : A.Sublist ts) (hc : ∀ e ∈ edT A, sw e ∈ edT ts → sw e ∈ edT A) {m : Nat} (hm : m < l.length) (hmin : ∀ v, v < l.length → v = m ∨ lexLt (pt l m) (pt l v)) (hone : su (cyc h) (fun e => if e.2 = m then 1 else 0) = 1) :
  su A (fun t => cr (pt l t.1) (pt l t.2.1) (pt l t.2.2)) = wnd B l A m * ar (pt l) (cyc h) := by
 have hB : 0 ≤ B := by have := N.bnd _ (pt_mem hm); omega
 have hnd : (edT A).Nodup := by
  refine List.Sublist.nodup ?_ N.nd
  exact edT_sub hA
 have hmn : ∀ v, v < l.length → (shr B l m).x ≤ (shr B l v).x := fun v hv => by
  rcases hmin v hv with rfl | h
  ·exact Int.le_refl _
  ·exact Int.le_of_lt (shr_lt N.bnd hm hv h)
 -- the greatest one
 obtain ⟨M, hM, hmx⟩ : ∃ M, M < l.length ∧ ∀ v, v < l.length → (shr B l v).x ≤ (shr B l M).x := by
  have key : ∀ k, 0 < k → k ≤ l.length → ∃ M, M < k ∧ ∀ v, v < k → (shr B l v).x ≤ (shr B l M).x := by
   intro k
   induction k with
   | zero => intro h; omega
   | succ k ih =>
    intro _ hk
    rcases Nat.eq_zero_or_pos k with h0 | h0
    ·subst h0
     exact ⟨0, by omega, fun v hv => by
      obtain rfl : v = 0 := by omega
      exact Int.le_refl _⟩
    ·obtain ⟨M, h1, h2⟩ := ih h0 (by omega)
     rcases Int.le_total (shr B l k).x (shr B l M).x with hx | hx
     ·exact ⟨M, by omega, fun v hv => by
       rcases Nat.lt_or_eq_of_le (Nat.le_of_lt_succ hv) with h | rfl
       ·exact h2 v h
       ·exact hx⟩
     ·exact ⟨k, by omega, fun v hv => by
       rcases Nat.lt_or_eq_of_le (Nat.le_of_lt_succ hv) with h | rfl
       ·exact Int.le_trans (h2 v h) hx
       ·exact Int.le_refl _⟩
  exact key l.length (by omega) (Nat.le_refl _)
 have sA : ∀ e ∈ bd (edT A), Sup (shr B l) l.length e := fun e he => by
  obtain ⟨h1, h2⟩ := bd_mem.1 he
  have h1' : e ∈ edT ts := by
   obtain ⟨t, ht, hh⟩ := edT_mem.1 h1
   exact edT_mem.2 ⟨t, hA.subset ht, hh⟩
  obtain ⟨q1, q2, q3⟩ := N.edge h1'
  exact sup_shr hB q1 q2 q3 (N.sup e (bd_mem.2 ⟨h1', fun h => h2 (hc e h1 h)⟩))
 have sH : ∀ e ∈ cyc h, Sup (shr B l) l.length e := fun e he => by
  obtain ⟨q1, q2, q3, q4⟩ := N.hsup e he
  exact sup_shr hB q1 q2 q3 q4
 have aw := area_w N.gen (bal_bd hnd) (bal_cyc h) sA sH hm hM hmn hmx
 have uH : U (shr B l) (cyc h) (shr B l m).x = 1 := by
  rw [← hone]
  unfold U
  refine su_congr fun e he => ?_
  have s := sH e he
  unfold sp
  have i2 := hmn e.2 s.l2
  have i1 := hmn e.1 s.l1
  by_cases h2 : e.2 = m
  ·have : (shr B l m).x ≠ (shr B l e.1).x := fun hx => s.ne ((N.gen.inj m e.1 hm s.l1 hx).symm.trans h2.symm)
   rw [if_pos h2, if_pos ⟨by rw [h2]; exact Int.le_refl _, by omega⟩]
  ·have : (shr B l m).x ≠ (shr B l e.2).x := fun hx => h2 (N.gen.inj m e.2 hm s.l2 hx).symm
   rw [if_neg h2, if_neg (by omega)]
 have e1 : ar (shr B l) (bd (edT A)) = (2 * B + 1) * su A fun t => cr (pt l t.1) (pt l t.2.1) (pt l t.2.2) := by
  have := su_bd hnd (anti_ar (shr B l))
  have h2 := ar_tris (pt l) A
  rw [← h2, ← ar_shr]
  exact this.symm
 rw [uH, e1, ar_shr, Int.one_mul] at aw
 refine Int.eq_of_mul_eq_mul_left (show (2 * B + 1) ≠ 0 by omega) ?_
 rw [aw]
 unfold wnd
 grind
theorem Net.conn (N : Net B l ts h) (p : Tri → Bool) (hc : ∀ e ∈ edT ts, ∀ t ∈ ts, ∀ t' ∈ ts, e ∈ ed3 t → sw e ∈ ed3 t' → p t = p t') {t0 : Tri} (h0 : t0 ∈ ts) (hp : p t0 = true) : ∀ t ∈ ts, p t = true := by
 obtain ⟨m, hm, hmin, hone⟩ := N.hone
 have cl : ∀ b : Bool, ∀ e ∈ edT (ts.filter fun t => p t == b), sw e ∈ edT ts → sw e ∈ edT (ts.filter fun t => p t == b) := fun b e he hs => by
  obtain ⟨t, ht, hh⟩ := List.mem_flatMap.1 (show e ∈ (ts.filter fun t => p t == b).flatMap ed3 from he)
  obtain ⟨t', ht', hh'⟩ := List.mem_flatMap.1 (show sw e ∈ ts.flatMap ed3 from hs)
  obtain ⟨q1, q2⟩ := List.mem_filter.1 ht
  have hpp := hc e (List.mem_flatMap.2 ⟨t, q1, hh⟩) t q1 t' ht' hh hh'
  refine List.mem_flatMap.2 ⟨t', List.mem_filter.2 ⟨ht', ?_⟩, hh'⟩
  rw [← hpp]
  exact q2
 let g : Tri → Int := fun t => cr (pt l t.1) (pt l t.2.1) (pt l t.2.2)
 have w : ∀ b : Bool, su (ts.filter fun t => p t == b) g = wnd B l (ts.filter fun t => p t == b) m * ar (pt l) (cyc h) := fun b => N.wind List.filter_sublist (cl b) hm hmin hone
 have tot : su ts g = su (ts.filter fun t => p t == true) g + su (ts.filter fun t => p t == false) g := by
  rw [su_filter ts (fun t => p t == true) g]
  congr 2
  refine List.filter_congr fun t _ => ?_
  cases p t <;> rfl
 have posb : ∀ b : Bool, ∀ t ∈ ts, p t = b → 0 < su (ts.filter fun t => p t == b) g := fun b t ht hb => by
  have hmem : t ∈ ts.filter fun t => p t == b := List.mem_filter.2 ⟨ht, by simp [hb]⟩
  have := su_mem (f := g) (fun x hx => Int.le_of_lt (N.pos x (List.mem_filter.1 hx).1)) hmem
  have hp := N.pos t ht
  simp only [g] at this ⊢
  omega
 intro t ht
 cases hb : p t with
 | true => rfl
 | false =>
  exfalso
  have a1 := posb true t0 h0 hp
  have a2 := posb false t ht hb
  have ha := N.area
  have w1 := w true
  have w2 := w false
  rw [w1] at a1
  rw [w2] at a2
  have ht2 : su ts g = ar (pt l) (cyc h) := ha
  rw [w1, w2] at tot
  generalize ar (pt l) (cyc h) = R at *
  generalize wnd B l (ts.filter fun t => p t == true) m = x at *
  generalize wnd B l (ts.filter fun t => p t == false) m = y at *
  have e : (x + y) * R = R := by rw [Int.add_mul]; omega
  have hR : 0 < R := by
   have h1 : 0 < (x + y) * R := by rw [Int.add_mul]; omega
   rw [e] at h1
   exact h1
  have hx : 0 < x := Int.pos_of_mul_pos_right (by rw [Int.mul_comm]; exact a1) hR
  have hy : 0 < y := Int.pos_of_mul_pos_right (by rw [Int.mul_comm]; exact a2) hR
  have h1 : (x + y) * R = 1 * R := by rw [e, Int.one_mul]
  have := Int.eq_of_mul_eq_mul_right (by omega) h1
  omega
end
end Go.Me
end
/- Chapter 6 in plain Lean: how many triangles a net has: each one is counted at its middle corner. Points have different x here. -/
section
set_option linter.unusedSimpArgs false
set_option linter.unusedVariables false
namespace Go.Me
section
variable (P : Nat → Pn)
end
section
variable {P : Nat → Pn} {n : Nat}
end
end Go.Me
end
/- Chapter 6 in plain Lean: how many triangles a net has. -/
section
set_option linter.unusedSimpArgs false
set_option linter.unusedVariables false
namespace Go.Me
section
variable (P : Nat → Pn) (n : Nat)
end
section
variable {P : Nat → Pn} {n : Nat}
end
end Go.Me
end
/- Chapter 6 in plain Lean: a right net of n points, with h edges on its border, has 2 n - h - 2 triangles. -/
section
set_option linter.unusedSimpArgs false
set_option linter.unusedVariables false
namespace Go.Me
section
variable {P : Nat → Pn} {n : Nat} {ts : List Tri}
end
end Go.Me
end
/- Chapter 6 in plain Lean: a right net of n points, with h edges on its border, has 2 n - h - 2 triangles: the count. -/
section
set_option linter.unusedSimpArgs false
set_option linter.unusedVariables false
namespace Go.Me
section
variable {P : Nat → Pn} {n : Nat} {ts : List Tri}
end
end Go.Me
end
/- Chapter 6 in plain Lean: a right net: its count; no corner lies in a triangle of others. -/
section
set_option linter.unusedSimpArgs false
set_option linter.unusedVariables false
namespace Go.Me
section
variable {B : Int} {l : List Pn} {ts : List Tri} {h : List Nat}
end
section
variable {P : Nat → Pn} {n : Nat} {ts : List Tri}
end
end Go.Me
end
/- Chapter 6: what the program calls a right net is one in the sense of the plain law. -/
section
set_option linter.unusedSimpArgs false
set_option linter.unusedVariables false
namespace Go.Me
open Go.Ab Go.Proofs.YtmohcmghbfhdlaaGreat
set_option maxRecDepth 100000
def tN (t : T3) : Tri := (t.1.toNat, t.2.1.toNat, t.2.2.toNat)
def eN (e : IE) : Ed := (e.1.toNat, e.2.toNat)
def eI (e : Ed) : IE := ((e.1 : Int), (e.2 : Int))
theorem lf_ed {ts : List T3} : ∀ k, k ≤ ts.length → (lf ts k).map (fun p => eN p.1) = edT ((ts.take k).map tN)
 | 0, _ => rfl
 | k + 1, h => by
  rw [lf_succ, take_tr (by omega), List.map_append, List.map_append, List.map_append, lf_ed k (by omega)]
  unfold edT
  rw [List.map_append, List.flatMap_append]
  simp [ed3, tN, eN]
theorem lf_edA (ts : List T3) : (lfA ts).map (fun p => eN p.1) = edT (ts.map tN) := by
 have := lf_ed (ts := ts) ts.length (Nat.le_refl _)
 rwa [List.take_length] at this
theorem ed_iff {l : List Pn} {ts : List T3} (h : NetR l ts) {e : Ed} : e ∈ edT (ts.map tN) ↔ eI e ∈ (lfA ts).map (·.1) := by
 rw [← lf_edA]
 constructor
 ·intro hm
  obtain ⟨p, hp, rfl⟩ := List.mem_map.1 hm
  obtain ⟨⟨a, _⟩, ⟨b, _⟩, _⟩ := h.ok.rng p hp
  refine List.mem_map.2 ⟨p, hp, ?_⟩
  unfold eI eN
  exact Prod.ext (by simp only; omega) (by simp only; omega)
 ·intro hm
  obtain ⟨p, hp, he⟩ := List.mem_map.1 hm
  refine List.mem_map.2 ⟨p, hp, ?_⟩
  rw [he]
  unfold eI eN
  exact Prod.ext (by simp) (by simp)
theorem ed_nodup {l : List Pn} {ts : List T3} (h : NetR l ts) : (edT (ts.map tN)).Nodup := by
 rw [← lf_edA]
 have h2 : ((lfA ts).map (·.1)).Nodup := h.ok.nd
 unfold List.Nodup at h2 ⊢
 rw [List.pairwise_map] at h2 ⊢
 refine h2.imp_of_mem fun {a b} ha hb hne he => hne ?_
 obtain ⟨⟨a1, _⟩, ⟨a2, _⟩, _⟩ := h.ok.rng a ha
 obtain ⟨⟨b1, _⟩, ⟨b2, _⟩, _⟩ := h.ok.rng b hb
 unfold eN at he
 rw [Prod.mk.injEq] at he
 exact Prod.ext (by omega) (by omega)
theorem tr_of {ts : List T3} {t : Tri} (h : t ∈ ts.map tN) : ∃ j, j < ts.length ∧ t = tN (tr ts j) := by
 obtain ⟨x, hx, rfl⟩ := List.mem_map.1 h
 obtain ⟨j, hj, rfl⟩ := List.getElem_of_mem hx
 refine ⟨j, hj, ?_⟩
 unfold tr
 rw [List.getD_eq_getElem?_getD, List.getElem?_eq_getElem hj]
 rfl
theorem tr_mem {ts : List T3} {j : Nat} (h : j < ts.length) : tN (tr ts j) ∈ ts.map tN := by
 refine List.mem_map.2 ⟨_, ?_, rfl⟩
 unfold tr
 rw [List.getD_eq_getElem?_getD, List.getElem?_eq_getElem h]
 exact List.getElem_mem h
theorem sgn_one {n : Int} (h : sgn n = 1) : 0 < n := by
 unfold sgn at h
 split at h
 ·cases h
 ·split at h
  ·cases h
  ·omega
theorem arT_su {l : List Pn} {ts : List T3} : ∀ k, k ≤ ts.length → arT l ts k = su ((ts.take k).map tN) fun t => cr (pt l t.1) (pt l t.2.1) (pt l t.2.2)
 | 0, _ => rfl
 | k + 1, h => by
  rw [take_tr (by omega), List.map_append, su_app, ← arT_su k (by omega)]
  show arT l ts k + arS l _ 3 = _
  rw [arS_3]
  unfold su
  simp [tN]
theorem cyc_len (H : List Nat) : (cyc H).length = H.length := by
 unfold cyc
 cases H with
 | nil => rfl
 | cons a r => simp
theorem cyc_at {H : List Nat} {k : Nat} (hk : k < H.length) : (cyc H)[k]? = some (ot H k, ot H ((k + 1) % H.length)) := by
 unfold cyc
 rw [List.getElem?_zip_eq_some]
 refine ⟨ot_lt hk, ?_⟩
 by_cases h1 : k + 1 < H.length
 ·rw [Nat.mod_eq_of_lt h1, List.getElem?_append_left (by simp; omega), List.getElem?_tail]
  exact ot_lt h1
 ·have e : k + 1 = H.length := by omega
  rw [e, Nat.mod_self, List.getElem?_append_right (by simp; omega)]
  have : k - H.tail.length = 0 := by simp; omega
  rw [this, List.getElem?_take, if_pos (by omega)]
  exact ot_lt (by omega)
theorem arS_su (l : List Pn) (H : List Nat) : ∀ k, k ≤ H.length → arS l H k = ar (pt l) ((cyc H).take k)
 | 0, _ => rfl
 | k + 1, h => by
  have hc := cyc_at (H := H) (k := k) (by omega)
  unfold ar
  rw [List.take_add_one, hc, su_app]
  show arS l H k + _ = _
  rw [arS_su l H k (by omega)]
  unfold ar su
  simp
theorem arS_cyc (l : List Pn) (H : List Nat) : arS l H H.length = ar (pt l) (cyc H) := by
 rw [arS_su l H _ (Nat.le_refl _), ← cyc_len, List.take_length]
theorem NetR.net {l : List Pn} {ts : List T3} (h : NetR l ts) : Net 10000 l (ts.map tN) (hl l) := by
 obtain ⟨h40, hok, hap⟩ := cp_ok h.cp
 obtain ⟨g1, g2, g3⟩ := h.g
 have hrng : ∀ t ∈ ts.map tN, t.1 < l.length ∧ t.2.1 < l.length ∧ t.2.2 < l.length := fun t ht => by
  obtain ⟨j, hj, rfl⟩ := tr_of ht
  obtain ⟨h1, _⟩ := trK_0 (h.all j hj)
  unfold inR at h1
  unfold tN
  simp only
  omega
 have hpos : ∀ t ∈ ts.map tN, 0 < cr (pt l t.1) (pt l t.2.1) (pt l t.2.2) := fun t ht => by
  obtain ⟨j, hj, rfl⟩ := tr_of ht
  obtain ⟨_, _, h3, _⟩ := trK_0 (h.all j hj)
  exact sgn_one h3
 have hnf : ¬ FlatR l := fun hf => by
  have ht := tr_mem g1
  have h1 := hrng _ ht
  have h2 := hpos _ ht
  rw [flatR_all hap hf _ (pt_mem h1.1) _ (pt_mem h1.2.1) _ (pt_mem h1.2.2)] at h2
  omega
 have hfk : flK l (l.length - 2) = false := by
  cases hb : flK l (l.length - 2) with
  | false => rfl
  | true => exact absurd (flK_flat.1 hb) hnf
 have hR := hl_ring h.cp hfk
 have hl0 : 0 < l.length := by have := hR.le; have := hR.len; omega
 have hstep : ∀ a b : Nat, nxI l a l.length = b → b < l.length ∧ b ≠ a ∧ Bord l (pt l a) (pt l b) := fun a b hn => by
  rcases nxI_eq l a l.length with ⟨_, h2⟩ | ⟨j, h1, h2⟩
  ·omega
  ·obtain rfl : j = b := by omega
   obtain ⟨c1, c2, c3⟩ := nextTo_cand _ _ h1
   exact ⟨c1, c2, c3⟩
 refine ⟨fun p hp => ?_, hap, hrng, hpos, ed_nodup h, fun e he q hq => ?_, fun e => ?_, fun e he => ?_, ?_, ?_, fun i hi => ?_⟩
 ·obtain ⟨i, hi, rfl⟩ := mem_pt hp
  exact ⟨(hok i hi).y0, (hok i hi).y1⟩
 ·obtain ⟨e1, e2⟩ := bd_mem.1 he
  have m1 := (ed_iff h).1 e1
  have m2 : lk (lfA ts) (eI (sw e)) = -1 := (lk_no h).2 fun hh => e2 ((ed_iff h).2 hh)
  obtain ⟨p, hp, hpe⟩ := List.mem_map.1 m1
  have ho := h.op
  unfold opB at ho
  rw [List.any_eq_false] at ho
  have h3 := ho p hp
  rw [hpe] at h3
  cases hb : bdB l e.1 e.2 with
  | true => exact bdB_true.1 hb _ (pt_mem hq)
  | false =>
   refine absurd ?_ h3
   show (decide (lk (lfA ts) (eI (sw e)) = -1) && !bdB l (e.1 : Int).toNat (e.2 : Int).toNat) = true
   rw [m2, Int.toNat_natCast, Int.toNat_natCast, hb]
   rfl
 ·have : (ts.map tN).length = 0 := by rw [e]; rfl
  rw [List.length_map] at this
  omega
 ·obtain ⟨k, hk⟩ := List.mem_iff_getElem?.1 he
  have hkl : k < (hl l).length := by rw [← cyc_len]; exact (List.getElem?_eq_some_iff.1 hk).1
  rw [cyc_at hkl] at hk
  cases hk
  have hb := hR.bd k hkl
  have hn : nxI l (ot (hl l) k) l.length = ot (hl l) ((k + 1) % (hl l).length) := by
   by_cases h1 : k + 1 < (hl l).length
   ·rw [Nat.mod_eq_of_lt h1]
    exact (hR.next k h1).1
   ·have e : k + 1 = (hl l).length := by omega
    rw [e, Nat.mod_self, hR.zero]
    have := hR.last
    rwa [show (hl l).length - 1 = k by omega] at this
  obtain ⟨c1, c2, c3⟩ := hstep _ _ hn
  exact ⟨hb, c1, fun e => c2 e.symm, fun q hq => c3 _ (pt_mem hq)⟩
 ·refine ⟨fsK l l.length, fsK_lt hl0 _ (Nat.le_refl _), fun v hv => ?_, ?_⟩
  ·by_cases hve : v = fsK l l.length
   ·exact .inl hve
   ·refine .inr ?_
    rcases lexLt_or (p := pt l v) (q := pt l (fsK l l.length)) (fun e => hve (hap _ _ hv (fsK_lt hl0 _ (Nat.le_refl _)) e)) with h1 | h1
    ·exact absurd h1 (fsK_min l.length v hv)
    ·exact h1
  ·have hz := hR.zero
   have hn := hR.next
   have h3 := hR.len
   generalize fsK l l.length = f at *
   generalize hl l = H at *
   cases H with
   | nil => simp at h3
   | cons a r =>
    have ha : a = f := hz
    subst ha
    have e : ∀ (r : List Nat) (b : Nat), (∀ x ∈ r, x ≠ a) → su ((b :: r).zip (r ++ [a])) (fun e => if e.2 = a then (1 : Int) else 0) = 1 := fun r => by
     induction r with
     | nil => intro b _; unfold su; simp
     | cons c r ih =>
      intro b hb
      rw [List.cons_append, List.zip_cons_cons, su_cons, ih c fun x hx => hb x (by simp [hx]), if_neg (hb c (by simp))]
      rfl
    refine e r a fun x hx => ?_
    obtain ⟨k, hk, rfl⟩ := List.getElem_of_mem hx
    have h5 := (hn k (by simp; omega)).2
    have : ot (a :: r) (k + 1) = r[k] := by unfold ot; simp [hk]
    rwa [this] at h5
 ·rw [← arS_cyc, ← g2, arT_su _ (Nat.le_refl _), List.take_length]
 ·have h1 := (us_full h.all).1 g3 i hi
  obtain ⟨j, hj, h2⟩ := (us_mem _).1 h1
  refine ⟨_, tr_mem hj, ?_⟩
  unfold tN
  simp only
  omega
end Go.Me
end
/- Chapter 6: a field is found; it does not depend on the rounds; it is whole turns from the phases (plain). -/
section
set_option linter.unusedSimpArgs false
set_option linter.unusedVariables false
namespace Go.Me
open Go.Ab Go.Proofs.YtmohcmghbfhdlaaGreat
set_option maxRecDepth 100000
theorem tri_u {l : List Pn} {ts : List T3} (h : NetR l ts) {u : List Int} (hu : ∀ e ∈ edL ts, e.x ∈ u ↔ e.y ∈ u) {j : Nat} (hj : j < ts.length) : ((tr ts j).1 ∈ u ↔ (tr ts j).2.1 ∈ u) ∧ ((tr ts j).2.1 ∈ u ↔ (tr ts j).2.2 ∈ u) := by
 have key : ∀ a b : Int, isE (tr ts j) (a, b) → (a ∈ u ↔ b ∈ u) := fun a b he => by
  have h1 : lk (lfA ts) (a, b) = j := (lk_tri h hj).2 he
  have hne : a ≠ b := lf_ne h (p := ((a, b), (j : Int))) ((lf_tri _).2 ⟨j, hj, rfl, he⟩)
  rcases Int.lt_or_gt_of_ne hne with h2 | h2
  ·exact hu ⟨a, b⟩ ((edL_mem h).2 ⟨h2, .inl (by simp only; omega)⟩)
  ·exact (hu ⟨b, a⟩ ((edL_mem h).2 ⟨h2, .inr (by simp only; omega)⟩)).symm
 exact ⟨key _ _ (.inl rfl), key _ _ (.inr (.inl rfl))⟩
theorem closed_all {l : List Pn} {ts : List T3} (h : NetR l ts) {u : List Int} (h0 : (0 : Int) ∈ u) (hl : 0 < l.length) (hu : ∀ e ∈ edL ts, e.x ∈ u ↔ e.y ∈ u) : ∀ i : Nat, i < l.length → (i : Int) ∈ u := by
 have hus := (us_full h.all).1 h.g.2.2
 have hin := fun j (hj : j < ts.length) => (trK_0 (h.all j hj)).1
 have hv : ∀ j, j < ts.length → ∀ x : Int, (x = (tr ts j).1 ∨ x = (tr ts j).2.1 ∨ x = (tr ts j).2.2) → (x ∈ u ↔ (tr ts j).1 ∈ u) := fun j hj x hx => by
  obtain ⟨a, b⟩ := tri_u h hu hj
  rcases hx with rfl | rfl | rfl
  ·exact Iff.rfl
  ·exact a.symm
  ·exact (a.trans b).symm
 have cast : ∀ j, j < ts.length → (((tN (tr ts j)).1 : Nat) : Int) = (tr ts j).1 ∧ (((tN (tr ts j)).2.1 : Nat) : Int) = (tr ts j).2.1 ∧ (((tN (tr ts j)).2.2 : Nat) : Int) = (tr ts j).2.2 := fun j hj => by
  have := hin j hj
  unfold inR at this
  unfold tN
  simp only
  omega
 have hmem : ∀ j, j < ts.length → ∀ e ∈ ed3 (tN (tr ts j)), ((e.1 : Nat) : Int) = (tr ts j).1 ∨ ((e.1 : Nat) : Int) = (tr ts j).2.1 ∨ ((e.1 : Nat) : Int) = (tr ts j).2.2 := fun j hj e he => by
  have hc := cast j hj
  unfold ed3 at he
  simp only [List.mem_cons, List.not_mem_nil, or_false] at he
  rcases he with rfl | rfl | rfl
  ·exact .inl hc.1
  ·exact .inr (.inl hc.2.1)
  ·exact .inr (.inr hc.2.2)
 have hmem2 : ∀ j, j < ts.length → ∀ e ∈ ed3 (tN (tr ts j)), ((e.2 : Nat) : Int) = (tr ts j).1 ∨ ((e.2 : Nat) : Int) = (tr ts j).2.1 ∨ ((e.2 : Nat) : Int) = (tr ts j).2.2 := fun j hj e he => by
  have hc := cast j hj
  unfold ed3 at he
  simp only [List.mem_cons, List.not_mem_nil, or_false] at he
  rcases he with rfl | rfl | rfl
  ·exact .inr (.inl hc.2.1)
  ·exact .inr (.inr hc.2.2)
  ·exact .inl hc.1
 obtain ⟨j0, hj0, hx0⟩ := (us_mem _).1 (hus 0 hl)
 have hall := h.net.conn (fun t => decide (((t.1 : Nat) : Int) ∈ u)) (fun e _ t ht t' ht' h1 h2 => by
  obtain ⟨j, hj, rfl⟩ := tr_of ht
  obtain ⟨j', hj', rfl⟩ := tr_of ht'
  have a1 := hv j hj _ (hmem j hj e h1)
  have a2 := hv j' hj' _ (hmem2 j' hj' (sw e) h2)
  have a3 : (((sw e).2 : Nat) : Int) = ((e.1 : Nat) : Int) := rfl
  rw [a3] at a2
  simp only [(cast j hj).1, (cast j' hj').1]
  exact decide_eq_decide.2 (a1.symm.trans a2)) (tr_mem hj0) (by
   rw [decide_eq_true_iff, (cast j0 hj0).1]
   exact (hv j0 hj0 _ hx0).1 h0)
 intro i hi
 obtain ⟨j, hj, hx⟩ := (us_mem _).1 (hus i hi)
 have h1 := hall _ (tr_mem hj)
 rw [decide_eq_true_iff, (cast j hj).1] at h1
 exact (hv j hj _ hx).2 h1
theorem fdSt_len {ds xs : List Int} {e : Pn} {k : Nat} {s : Fdt} : s.2.length ≤ (fdSt ds xs e k s).2.length ∧ ((fdSt ds xs e k s).2.length = s.2.length → (e.x ∈ s.2 ↔ e.y ∈ s.2) ∧ fdSt ds xs e k s = s) := by
 by_cases hx : e.x ∈ s.2 <;> by_cases hy : e.y ∈ s.2
 ·rw [fdSt_c (iff_of_true hx hy)]
  exact ⟨Nat.le_refl _, fun _ => ⟨iff_of_true hx hy, rfl⟩⟩
 ·rw [fdSt_a hx hy]
  simp
 ·rw [fdSt_b hy hx]
  simp
 ·rw [fdSt_c (iff_of_false hx hy)]
  exact ⟨Nat.le_refl _, fun _ => ⟨iff_of_false hx hy, rfl⟩⟩
theorem fdK_len {ds xs : List Int} {es : List Pn} {s : Fdt} : ∀ k, s.2.length ≤ (fdK ds xs es s k).2.length ∧ ((fdK ds xs es s k).2.length = s.2.length → fdK ds xs es s k = s ∧ ∀ j, j < k → ((pt es j).x ∈ s.2 ↔ (pt es j).y ∈ s.2))
 | 0 => ⟨Nat.le_refl _, fun _ => ⟨rfl, fun j hj => absurd hj (by omega)⟩⟩
 | k + 1 => by
  obtain ⟨h1, h2⟩ := fdK_len (ds := ds) (xs := xs) (es := es) (s := s) k
  obtain ⟨h3, h4⟩ := fdSt_len (ds := ds) (xs := xs) (e := pt es k) (k := k) (s := fdK ds xs es s k)
  refine ⟨Nat.le_trans h1 h3, fun h => ?_⟩
  have h5 : (fdSt ds xs (pt es k) k (fdK ds xs es s k)).2.length = s.2.length := h
  obtain ⟨h6, h7⟩ := h2 (by omega)
  obtain ⟨h8, h9⟩ := h4 (by omega)
  rw [h6] at h8
  refine ⟨(show fdSt ds xs (pt es k) k (fdK ds xs es s k) = s from h9.trans h6), fun j hj => ?_⟩
  rcases Nat.lt_or_eq_of_le (Nat.le_of_lt_succ hj) with hj | rfl
  ·exact h7 j hj
  ·exact h8
theorem fdK_in {ds xs : List Int} {es : List Pn} {s : Fdt} {x : Int} (hx : x ∈ s.2) : ∀ k, x ∈ (fdK ds xs es s k).2
 | 0 => hx
 | k + 1 => by
  have h1 := fdK_in (ds := ds) (xs := xs) (es := es) hx k
  show x ∈ (fdSt ds xs (pt es k) k (fdK ds xs es s k)).2
  unfold fdSt
  split
  ·exact List.mem_append_left _ h1
  ·split
   ·exact List.mem_append_left _ h1
   ·exact h1
theorem fdN_in {ds xs : List Int} {es : List Pn} {s : Fdt} {x : Int} (hx : x ∈ s.2) : ∀ r, x ∈ (fdN ds xs es s r).2
 | 0 => hx
 | r + 1 => fdK_in (fdN_in hx r) _
theorem all_len {n : Nat} {u : List Int} (h : ∀ i : Nat, i < n → (i : Int) ∈ u) : n ≤ u.length := by
 have := le_nodup ((List.range n).map fun i : Nat => (i : Int)) u (by
  unfold List.Nodup
  rw [List.pairwise_map]
  exact List.Pairwise.imp (fun h e => h (Int.ofNat.inj e)) List.nodup_range) (fun y hy => by
   obtain ⟨i, hi, rfl⟩ := List.mem_map.1 hy
   exact h i (List.mem_range.1 hi))
 simpa using this
theorem grow {l : List Pn} {ts : List T3} (h : NetR l ts) (hl : 0 < l.length) {ds xs : List Int} {s : Fdt} (h0 : (0 : Int) ∈ s.2) (h1 : 1 ≤ s.2.length) : ∀ r, l.length ≤ (fdN ds xs (edL ts) s r).2.length ∨ r + 1 ≤ (fdN ds xs (edL ts) s r).2.length
 | 0 => .inr h1
 | r + 1 => by
  obtain ⟨h2, h3⟩ := fdK_len (ds := ds) (xs := xs) (es := edL ts) (s := fdN ds xs (edL ts) s r) (edL ts).length
  show l.length ≤ (fdK ds xs (edL ts) (fdN ds xs (edL ts) s r) (edL ts).length).2.length ∨ _ ≤ (fdK ds xs (edL ts) (fdN ds xs (edL ts) s r) (edL ts).length).2.length
  rcases grow h hl (ds := ds) (xs := xs) h0 h1 r with h4 | h4
  ·exact .inl (by omega)
  ·by_cases h5 : (fdK ds xs (edL ts) (fdN ds xs (edL ts) s r) (edL ts).length).2.length = (fdN ds xs (edL ts) s r).2.length
   ·have h6 := (h3 h5).2
    have h7 := all_len (closed_all h (fdN_in h0 r) hl fun e he => by
     obtain ⟨k, hk, rfl⟩ := List.getElem_of_mem he
     have e1 : pt (edL ts) k = (edL ts)[k] := by
      unfold pt
      rw [List.getD_eq_getElem?_getD, List.getElem?_eq_getElem hk]
      rfl
     rw [← e1]
     exact h6 k hk)
    exact .inl (by omega)
   ·exact .inr (by omega)
theorem firstR {f : Nat → Prop} : ∀ m, f m → ∃ R, R ≤ m ∧ f R ∧ ∀ r, r < R → ¬ f r := fun m => by
 induction m using Nat.strongRecOn with
 | ind m ih =>
  intro hm
  by_cases h : ∃ r, r < m ∧ f r
  ·obtain ⟨r, h1, h2⟩ := h
   obtain ⟨R, h3, h4, h5⟩ := ih r h1 h2
   exact ⟨R, by omega, h4, h5⟩
  ·exact ⟨m, Nat.le_refl _, hm, fun r hr hf => h ⟨r, hr, hf⟩⟩
structure Rel2 (n : Nat) (s t : Fdt) : Prop where
 kn : s.2 = t.2
 eq : ∀ k ∈ s.2, nt s.1 k.toNat = nt t.1 k.toNat
 ls : s.1.length = n
 lt : t.1.length = n
 rg : ∀ k ∈ s.2, 0 ≤ k ∧ k < n
theorem Rel2.put {n : Nat} {s t : Fdt} (h : Rel2 n s t) {y v w : Int} (hy : 0 ≤ y ∧ y < n) (hv : v = w) : Rel2 n (s.1.set y.toNat v, s.2 ++ [y]) (t.1.set y.toNat w, t.2 ++ [y]) := by
 subst hv
 have hr : ∀ k ∈ s.2 ++ [y], 0 ≤ k ∧ k < n := fun k hk => by
  rcases List.mem_append.1 hk with hk | hk
  ·exact h.rg k hk
  ·rw [List.mem_singleton] at hk
   subst hk
   exact hy
 refine ⟨by rw [h.kn], fun k hk => ?_, by rw [List.length_set]; exact h.ls, by rw [List.length_set]; exact h.lt, hr⟩
 have hk2 := hr k hk
 rw [nt_set (by rw [h.ls]; omega), nt_set (by rw [h.lt]; omega)]
 by_cases he : y.toNat = k.toNat
 ·simp only [he, if_true]
 ·rcases List.mem_append.1 hk with hk | hk
  ·simp only [h.eq k hk]
  ·rw [List.mem_singleton] at hk
   exact absurd (by rw [hk]) he
theorem Rel2.st {n : Nat} {ds xs : List Int} {e : Pn} {k : Nat} {s t : Fdt} (h : Rel2 n s t) (he : (0 ≤ e.x ∧ e.x < n) ∧ (0 ≤ e.y ∧ e.y < n)) : Rel2 n (fdSt ds xs e k s) (fdSt ds xs e k t) := by
 by_cases hx : e.x ∈ s.2 <;> by_cases hy : e.y ∈ s.2
 ·rw [fdSt_c (iff_of_true hx hy), fdSt_c (by rw [← h.kn]; exact iff_of_true hx hy)]
  exact h
 ·rw [fdSt_a hx hy, fdSt_a (by rw [← h.kn]; exact hx) (by rw [← h.kn]; exact hy)]
  exact h.put he.2 (by rw [h.eq _ hx])
 ·rw [fdSt_b hy hx, fdSt_b (by rw [← h.kn]; exact hy) (by rw [← h.kn]; exact hx)]
  exact h.put he.1 (by rw [h.eq _ hy])
 ·rw [fdSt_c (iff_of_false hx hy), fdSt_c (by rw [← h.kn]; exact iff_of_false hx hy)]
  exact h
theorem Rel2.K {n : Nat} {ds xs : List Int} {es : List Pn} {s t : Fdt} (h : Rel2 n s t) (he : ∀ k, k < es.length → (0 ≤ (pt es k).x ∧ (pt es k).x < n) ∧ (0 ≤ (pt es k).y ∧ (pt es k).y < n)) : ∀ k, k ≤ es.length → Rel2 n (fdK ds xs es s k) (fdK ds xs es t k)
 | 0, _ => h
 | k + 1, hk => (Rel2.K h he k (by omega)).st (he k (by omega))
theorem Rel2.N {n : Nat} {ds xs : List Int} {es : List Pn} {s t : Fdt} (h : Rel2 n s t) (he : ∀ k, k < es.length → (0 ≤ (pt es k).x ∧ (pt es k).x < n) ∧ (0 ≤ (pt es k).y ∧ (pt es k).y < n)) : ∀ r, Rel2 n (fdN ds xs es s r) (fdN ds xs es t r)
 | 0 => h
 | r + 1 => (Rel2.N h he r).K he _ (Nat.le_refl _)
theorem fdN_full {ds xs : List Int} {es : List Pn} {s : Fdt} {R : Nat} (hf : ∀ k, k < es.length → (pt es k).x ∈ (fdN ds xs es s R).2 ∧ (pt es k).y ∈ (fdN ds xs es s R).2) : ∀ d, fdN ds xs es s (R + d) = fdN ds xs es s R
 | 0 => rfl
 | d + 1 => by
  show fdK ds xs es (fdN ds xs es s (R + d)) es.length = _
  rw [fdN_full hf d]
  have key : ∀ k, k ≤ es.length → fdK ds xs es (fdN ds xs es s R) k = fdN ds xs es s R := fun k => by
   induction k with
   | zero => intro _; rfl
   | succ k ih =>
    intro hk
    show fdSt ds xs (pt es k) k (fdK ds xs es (fdN ds xs es s R) k) = _
    rw [ih (by omega)]
    exact fdSt_c (iff_of_true (hf k (by omega)).1 (hf k (by omega)).2)
  exact key _ (Nat.le_refl _)
theorem full_mem {n : Nat} {s : Fdt} (h : FdOk n s) (hf : s.2.length = n) {x : Int} (hx : 0 ≤ x ∧ x < n) : x ∈ s.2 := by
 refine Classical.byContradiction fun hn => ?_
 have := le_nodup (x :: s.2) ((List.range n).map fun i : Nat => (i : Int)) (List.nodup_cons.2 ⟨hn, h.nd⟩) (fun y hy => by
  have h1 : 0 ≤ y ∧ y < n := by
   rcases List.mem_cons.1 hy with rfl | hy
   ·exact hx
   ·exact h.rng y hy
  exact List.mem_map.2 ⟨y.toNat, List.mem_range.2 (by omega), by omega⟩)
 simp only [List.length_cons, List.length_map, List.length_range] at this
 omega
theorem list_nt {a b : List Int} (hl : a.length = b.length) (h : ∀ i, i < a.length → nt a i = nt b i) : a = b := by
 refine List.ext_getElem hl fun i h1 h2 => ?_
 have := h i h1
 unfold nt at this
 rw [List.getD_eq_getElem?_getD, List.getD_eq_getElem?_getD, List.getElem?_eq_getElem h1, List.getElem?_eq_getElem h2] at this
 exact this
theorem field_eq {l : List Pn} {ts : List T3} (h : NetR l ts) {ph xs : List Int} (hph : phE l ph = 0) (htu : tuR ts xs = 0) :
  ∃ R, FdR (dfL ts ph) xs (edL ts) (fd0 l.length (nt ph 0)) l.length R ∧ (fdN (dfL ts ph) xs (edL ts) (fd0 l.length (nt ph 0)) R).1 = (fdN (dfL ts ph) xs (edL ts) (ph, [0]) ph.length).1 := by
 obtain ⟨hxl, hxa⟩ := tuR_0 htu
 have hxb := anyR_no hxa
 have hdl := dfL_len ts ph
 have hdb := dfL_bd ts ph
 obtain ⟨hpl, hpb⟩ := phE_0 hph
 have he := fun k hk => edL_at h.ok k hk
 have hpos : 0 < l.length := by
  have h1 := edL_pos h
  have h2 := he 0 (by omega)
  omega
 have hd : ∀ k, k < (edL ts).length → -411648 ≤ fdD (dfL ts ph) xs k ∧ fdD (dfL ts ph) xs k ≤ 411648 := fun k hk => by
  have h1 := hdb k (by omega)
  have h2 := hxb k (by omega)
  unfold fdD
  omega
 have hokb := fun r => fdN_ok (s := fd0 l.length (nt ph 0)) he hd (fd0_ok hpos (hpb 0 (by omega))) r
 have hg := grow h hpos (ds := dfL ts ph) (xs := xs) (s := fd0 l.length (nt ph 0)) (by simp [fd0]) (by simp [fd0]) l.length
 have hle := (hokb l.length).le
 obtain ⟨R, hR, hfin, hlt⟩ := firstR (f := fun r => (fdN (dfL ts ph) xs (edL ts) (fd0 l.length (nt ph 0)) r).2.length = l.length) l.length (by omega)
 refine ⟨R, ⟨hfin, hlt⟩, ?_⟩
 have hrel : Rel2 l.length (fd0 l.length (nt ph 0)) (ph, [0]) := by
  refine ⟨rfl, fun k hk => ?_, (hokb 0).len, hpl, (hokb 0).rng⟩
  simp only [fd0, List.mem_singleton] at hk
  subst hk
  simp only [fd0]
  rw [nt_set (by simpa using hpos)]
  rfl
 have hrR := hrel.N (ds := dfL ts ph) (xs := xs) he R
 have hful : ∀ x : Int, 0 ≤ x ∧ x < l.length → x ∈ (fdN (dfL ts ph) xs (edL ts) (fd0 l.length (nt ph 0)) R).2 := fun x hx => full_mem (hokb R) hfin hx
 have hst := fdN_full (ds := dfL ts ph) (xs := xs) (es := edL ts) (s := (ph, [0])) (R := R) (fun k hk => by
  rw [← hrR.kn]
  exact ⟨hful _ (he k hk).1, hful _ (he k hk).2⟩) (ph.length - R)
 rw [show R + (ph.length - R) = ph.length by omega] at hst
 rw [hst]
 refine list_nt (hrR.ls.trans hrR.lt.symm) fun i hi => ?_
 have hi2 : i < l.length := by rw [← hrR.ls]; exact hi
 have := hrR.eq (i : Int) (hful _ (by omega))
 simpa using this
def Whole (ph : List Int) (n : Nat) (s : Fdt) : Prop := s.1.length = n ∧ ∀ i, i < n → (4096 : Int) ∣ nt s.1 i - nt ph i
theorem Whole.N {l : List Pn} {ts : List T3} (h : NetR l ts) {ph xs : List Int} (hpl : ph.length = l.length) : ∀ r, Whole ph l.length (fdN (dfL ts ph) xs (edL ts) (ph, [0]) r) := by
 have he := fun k hk => edL_at h.ok k hk
 have st : ∀ k s, k < (edL ts).length → Whole ph l.length s → Whole ph l.length (fdSt (dfL ts ph) xs (pt (edL ts) k) k s) := fun k s hk ⟨h1, h2⟩ => by
  have hr := he k hk
  have hd : (4096 : Int) ∣ fdD (dfL ts ph) xs k - (nt ph (pt (edL ts) k).y.toNat - nt ph (pt (edL ts) k).x.toNat) := by
   unfold fdD
   rw [dfL_nt hk]
   unfold dfP
   rw [wrI_e]
   omega
  have hx := h2 (pt (edL ts) k).x.toNat (by omega)
  have hy := h2 (pt (edL ts) k).y.toNat (by omega)
  unfold fdSt
  split
  ·refine ⟨by rw [List.length_set]; exact h1, fun i hi => ?_⟩
   have hi2 := h2 i hi
   simp only
   rw [nt_set (by rw [h1]; exact hi)]
   split
   ·rename_i e
    subst e
    omega
   ·exact hi2
  ·split
   ·refine ⟨by rw [List.length_set]; exact h1, fun i hi => ?_⟩
    have hi2 := h2 i hi
    simp only
    rw [nt_set (by rw [h1]; exact hi)]
    split
    ·rename_i e
     subst e
     omega
    ·exact hi2
   ·exact ⟨h1, h2⟩
 have K : ∀ s, Whole ph l.length s → ∀ k, k ≤ (edL ts).length → Whole ph l.length (fdK (dfL ts ph) xs (edL ts) s k) := fun s hs k => by
  induction k with
  | zero => intro _; exact hs
  | succ k ih => intro hk; exact st k _ (by omega) (ih (by omega))
 intro r
 induction r with
 | zero => exact ⟨hpl, fun i _ => by rw [show nt (fdN (dfL ts ph) xs (edL ts) (ph, [0]) 0).1 i = nt ph i from rfl, Int.sub_self]; exact ⟨0, rfl⟩⟩
 | succ r ih => exact K _ ih _ (Nat.le_refl _)
theorem whole_wr {x p : Int} (h : (4096 : Int) ∣ x - p) (hp : -2048 ≤ p ∧ p ≤ 2047) : (x - p) % 4096 = 0 ∧ wrI x = p := by
 rw [wrI_e]
 omega
end Go.Me
end
