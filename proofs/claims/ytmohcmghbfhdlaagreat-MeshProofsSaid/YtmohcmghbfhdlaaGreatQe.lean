/- Chapter 6 in plain Lean: hulls: the chain that is built along a line's order. -/
import Init.Data.List.Lemmas
import Derived.Test.YtmohcmghbfhdlaaGreatQd
import Derived.ProofKit
import Derived.OpenShut
import Derived.Deep.Slices
section
set_option linter.unusedSimpArgs false
set_option linter.unusedVariables false
namespace Go.Me
structure Pn where
 x : Int
 y : Int
 deriving DecidableEq
def cr (a b c : Pn) : Int := (b.x - a.x) * (c.y - a.y) - (b.y - a.y) * (c.x - a.x)
section
variable {A C : Int}
def ph (A C : Int) (p : Pn) : Int := A * p.x + C * p.y
theorem id1 (a b c p : Pn) : (ph A C c - ph A C b) * cr a b p = (ph A C b - ph A C a) * cr b c p + (ph A C p - ph A C b) * cr a b c := by unfold ph cr; grind
theorem id2 (a b p q : Pn) : (ph A C b - ph A C a) * cr b p q = (ph A C b - ph A C q) * cr a b p + (ph A C p - ph A C b) * cr a b q := by unfold ph cr; grind
theorem id3 (s t p q : Pn) : (ph A C t - ph A C s) * cr s p q = (ph A C p - ph A C s) * cr s t q - (ph A C q - ph A C s) * cr s t p := by unfold ph cr; grind
theorem nn_of {k n : Int} (hk : 0 < k) (h : 0 ≤ k * n) : 0 ≤ n := by
 apply Classical.byContradiction
 intro hn
 have := Int.mul_lt_mul_of_pos_left (show n < 0 by omega) hk
 omega
theorem ps_of {k n : Int} (hk : 0 < k) (h : 0 < k * n) : 0 < n := by
 apply Classical.byContradiction
 intro hn
 have := Int.mul_le_mul_of_nonneg_left (show n ≤ 0 by omega) (Int.le_of_lt hk)
 omega
theorem l1 {a b c p : Pn} (h1 : ph A C a < ph A C b) (h2 : ph A C b < ph A C c) (h3 : ph A C c < ph A C p) (h4 : 0 < cr a b c) (h5 : 0 < cr b c p) : 0 < cr a b p := by
 refine ps_of (k := ph A C c - ph A C b) (by omega) ?_
 rw [id1]
 have := Int.mul_pos (show 0 < ph A C b - ph A C a by omega) h5
 have := Int.mul_pos (show 0 < ph A C p - ph A C b by omega) h4
 omega
theorem l2 {a b p q : Pn} (h1 : ph A C a < ph A C b) (h2 : ph A C b < ph A C p) (h3 : ph A C q ≤ ph A C b) (h4 : 0 < cr a b p) (h5 : 0 ≤ cr a b q) : 0 ≤ cr b p q := by
 refine nn_of (k := ph A C b - ph A C a) (by omega) ?_
 rw [id2]
 have := Int.mul_nonneg (show 0 ≤ ph A C b - ph A C q by omega) (Int.le_of_lt h4)
 have := Int.mul_nonneg (show 0 ≤ ph A C p - ph A C b by omega) h5
 omega
theorem l3 {s t p q : Pn} (h1 : ph A C s < ph A C t) (h2 : ph A C s < ph A C p) (h3 : ph A C s ≤ ph A C q) (h4 : cr s t p ≤ 0) (h5 : 0 ≤ cr s t q) : 0 ≤ cr s p q := by
 refine nn_of (k := ph A C t - ph A C s) (by omega) ?_
 rw [id3]
 have := Int.mul_nonneg (show 0 ≤ ph A C p - ph A C s by omega) h5
 have := Int.mul_nonneg (show 0 ≤ ph A C q - ph A C s by omega) (show 0 ≤ -cr s t p by omega)
 rw [Int.mul_neg] at this
 omega
end
def pop (p : Pn) : List Pn → List Pn
 | b :: a :: r => if cr a b p ≤ 0 then pop p (a :: r) else b :: a :: r
 | s => s
def chain (ps : List Pn) : List Pn := ps.foldl (fun st p => p :: pop p st) []
def Good (A C : Int) (seen : List Pn) : List Pn → Prop
 | c :: b :: r => ph A C b < ph A C c ∧ (∀ q ∈ seen, 0 ≤ cr b c q) ∧ (∀ a r', r = a :: r' → 0 < cr a b c) ∧ Good A C seen (b :: r)
 | _ => True
theorem cr_self (b p : Pn) : cr b p p = 0 := by unfold cr; grind
theorem cr_base (b p : Pn) : cr b p b = 0 := by unfold cr; grind
theorem Good.add {A C : Int} {seen : List Pn} {p : Pn} : ∀ (st : List Pn) (c : Pn), (∀ q ∈ st.head?, 0 < cr q c p) → Good A C seen (c :: st) → ph A C c < ph A C p → Good A C (p :: seen) (c :: st)
 | [], c, _, _, _ => trivial
 | b :: r, c, h, hg, hp => by
  obtain ⟨g1, g2, g3, g4⟩ := hg
  have hb : 0 < cr b c p := h b (by simp)
  refine ⟨g1, fun q hq => ?_, g3, ?_⟩
  ·rcases List.mem_cons.1 hq with rfl | hq
   ·exact Int.le_of_lt hb
   ·exact g2 q hq
  ·refine Good.add r b (fun q hq => ?_) g4 (by omega)
   cases r with
   | nil => simp at hq
   | cons a r' =>
    simp only [List.head?_cons, Option.mem_def, Option.some.injEq] at hq
    subst hq
    exact l1 (A := A) (C := C) g4.1 g1 hp (g3 a r' rfl) hb
theorem pop_good {A C : Int} {seen : List Pn} {p : Pn} (hp : ∀ q ∈ seen, ph A C q < ph A C p) : ∀ (st : List Pn) (b : Pn), (∀ x ∈ b :: st, x ∈ seen) → (∀ x, (b :: st).getLast? = some x → ∀ q ∈ seen, ph A C x ≤ ph A C q) →
  (∀ q ∈ seen, ph A C b < ph A C q → 0 ≤ cr b p q) → (∀ q ∈ seen, ph A C q = ph A C b → q = b) → (∀ x ∈ st, ∀ q ∈ seen, ph A C q = ph A C x → q = x) → Good A C seen (b :: st) → Good A C (p :: seen) (p :: pop p (b :: st))
 | [], b, hin, hlast, hnew, hinj, _, hg => by
  show Good A C (p :: seen) [p, b]
  refine ⟨hp b (hin b (by simp)), fun q hq => ?_, fun a r' h => (nomatch h), trivial⟩
  rcases List.mem_cons.1 hq with rfl | hq
  ·rw [cr_self]; exact Int.le_refl _
  ·rcases Int.lt_or_eq_of_le (hlast b (by simp) q hq) with h | h
   ·exact hnew q hq h
   ·rw [hinj q hq h.symm, cr_base]; exact Int.le_refl _
 | a :: r, b, hin, hlast, hnew, hinj, hinj', hg => by
  obtain ⟨g1, g2, g3, g4⟩ := hg
  have hb := hp b (hin b (by simp))
  have ha := hp a (hin a (by simp))
  unfold pop
  by_cases hc : cr a b p ≤ 0
  ·rw [if_pos hc]
   refine pop_good hp r a (fun x hx => hin x (by simp at hx ⊢; right; exact hx)) (fun x hx => hlast x (by simpa [List.getLast?_cons_cons] using hx)) (fun q hq h => ?_) (hinj' a (by simp)) (fun x hx => hinj' x (by simp [hx])) g4
   exact l3 (A := A) (C := C) g1 ha (Int.le_of_lt h) hc (g2 q hq)
  ·rw [if_neg hc]
   have hc' : 0 < cr a b p := by omega
   refine ⟨hb, fun q hq => ?_, fun a' r' h => ?_, ?_⟩
   ·rcases List.mem_cons.1 hq with rfl | hq
    ·rw [cr_self]; exact Int.le_refl _
    ·by_cases h : ph A C b < ph A C q
     ·exact hnew q hq h
     ·exact l2 (A := A) (C := C) g1 hb (by omega) hc' (g2 q hq)
   ·cases h
    exact hc'
   ·exact Good.add (a :: r) b (fun q hq => by simp at hq; subst hq; exact hc') ⟨g1, g2, g3, g4⟩ hb
theorem pop_ne (p : Pn) : ∀ (st : List Pn) (b : Pn), ∃ c r, pop p (b :: st) = c :: r
 | [], b => ⟨b, [], rfl⟩
 | a :: r, b => by
  unfold pop
  split
  ·exact pop_ne p r a
  ·exact ⟨_, _, rfl⟩
theorem pop_sub (p : Pn) : ∀ (st : List Pn) (x : Pn), x ∈ pop p st → x ∈ st
 | [], x, h => h
 | [b], x, h => h
 | b :: a :: r, x, h => by
  unfold pop at h
  split at h
  ·exact List.mem_cons_of_mem _ (pop_sub p (a :: r) x h)
  ·exact h
theorem pop_last (p : Pn) : ∀ (st : List Pn), (pop p st).getLast? = st.getLast?
 | [] => rfl
 | [b] => rfl
 | b :: a :: r => by
  unfold pop
  split
  ·rw [pop_last p (a :: r), List.getLast?_cons_cons]
  ·rfl
theorem Good.mono {A C : Int} {s s' : List Pn} (h : ∀ q ∈ s', q ∈ s) : ∀ st : List Pn, Good A C s st → Good A C s' st
 | [], _ => trivial
 | [_], _ => trivial
 | c :: b :: r, hg => ⟨hg.1, fun q hq => hg.2.1 q (h q hq), hg.2.2.1, Good.mono h (b :: r) hg.2.2.2⟩
theorem chain_snoc (ps : List Pn) (p : Pn) : chain (ps ++ [p]) = p :: pop p (chain ps) := by unfold chain; rw [List.foldl_append]; rfl
structure Chained (A C : Int) (ps st : List Pn) : Prop where
 sub : ∀ x ∈ st, x ∈ ps
 top : st.head? = ps.getLast?
 low : ∀ x, st.getLast? = some x → ∀ q ∈ ps, ph A C x ≤ ph A C q
 good : Good A C ps st
theorem chained {A C : Int} (ps : List Pn) (h : ps.Pairwise fun a b => ph A C a < ph A C b) : Chained A C ps (chain ps) := by
 have key : ∀ n (ps : List Pn), ps.length = n → (ps.Pairwise fun a b => ph A C a < ph A C b) → Chained A C ps (chain ps) := by
  intro n
  induction n with
  | zero =>
   intro ps hl _
   obtain rfl := List.length_eq_zero_iff.1 hl
   exact ⟨fun x hx => hx, rfl, fun x hx => by simp [chain] at hx, trivial⟩
  | succ n ih =>
   intro ps hl hp
   have hne : ps ≠ [] := fun e => by rw [e] at hl; simp at hl
   obtain ⟨qs, p, rfl⟩ : ∃ qs p, ps = qs ++ [p] := ⟨ps.dropLast, ps.getLast hne, (List.dropLast_concat_getLast hne).symm⟩
   rw [List.pairwise_append] at hp
   obtain ⟨hp1, _, hp2⟩ := hp
   have hlt : ∀ q ∈ qs, ph A C q < ph A C p := fun q hq => hp2 q hq p (by simp)
   have hq := ih qs (by simpa using hl) hp1
   have hinj : ∀ x ∈ qs, ∀ q ∈ qs, ph A C q = ph A C x → q = x := by
    intro x hx q hq e
    have : ∀ (l : List Pn), (l.Pairwise fun a b => ph A C a < ph A C b) → x ∈ l → q ∈ l → q = x := by
     intro l
     induction l with
     | nil => intro _ h; simp at h
     | cons a l ihl =>
      intro hpw h1 h2
      rw [List.pairwise_cons] at hpw
      rcases List.mem_cons.1 h1 with e1 | k1
      ·rcases List.mem_cons.1 h2 with e2 | k2
       ·rw [e1, e2]
       ·have := hpw.1 q k2; rw [← e1] at this; omega
      ·rcases List.mem_cons.1 h2 with e2 | k2
       ·have := hpw.1 x k1; rw [← e2] at this; omega
       ·exact ihl hpw.2 k1 k2
    exact this qs hp1 hx hq
   rw [chain_snoc]
   have hmem : ∀ q ∈ qs ++ [p], q ∈ p :: qs := fun q hq => by simp at hq ⊢; rcases hq with h | h <;> simp [h]
   cases hst : chain qs with
   | nil =>
    have hqs : qs = [] := by
     have := hq.top
     rw [hst] at this
     simpa using this.symm
    subst hqs
    exact ⟨fun x hx => by simpa [pop] using hx, rfl, fun x hx q hq => by simp [pop] at hx hq; subst hx hq; exact Int.le_refl _, trivial⟩
   | cons b r =>
    have hbt : qs.getLast? = some b := by rw [← hq.top, hst]; rfl
    refine ⟨fun x hx => ?_, by simp, fun x hx q hqm => ?_, ?_⟩
    ·rcases List.mem_cons.1 hx with rfl | hx
     ·simp
     ·exact List.mem_append_left _ (hq.sub x (by rw [hst]; exact pop_sub p _ x hx))
    ·obtain ⟨c, r', hpop⟩ := pop_ne p r b
     have hx' : (chain qs).getLast? = some x := by
      rw [hst, ← pop_last p, hpop]
      rw [hpop, List.getLast?_cons_cons] at hx
      exact hx
     rcases List.mem_append.1 hqm with h | h
     ·exact hq.low x hx' q h
     ·have : q = p := by simpa using h
      subst this
      have := hlt x (hq.sub x (List.mem_of_getLast? hx'))
      omega
    ·refine Good.mono hmem _ (pop_good hlt r b (fun x hx => hq.sub x (by rw [hst]; exact hx)) (fun x hx => hq.low x (by rw [hst]; exact hx)) (fun q hqm hlt' => ?_) (fun q hqm e => hinj b (hq.sub b (by rw [hst]; simp)) q hqm e) (fun x hx q hqm e => hinj x (hq.sub x (by rw [hst]; simp [hx])) q hqm e) (by have := hq.good; rwa [hst] at this))
     -- no point lies behind the last one
     have : ph A C q ≤ ph A C b := by
      obtain ⟨ini, hini⟩ : ∃ ini, qs = ini ++ [b] := List.getLast?_eq_some_iff.1 hbt
      rw [hini] at hqm hp1
      rcases List.mem_append.1 hqm with h | h
      ·exact Int.le_of_lt ((List.pairwise_append.1 hp1).2.2 q h b (by simp))
      ·have : q = b := by simpa using h
       rw [this]
       exact Int.le_refl _
     omega
 exact key _ ps rfl h
def Bord (L : List Pn) (a b : Pn) : Prop := ∀ q ∈ L, 0 ≤ cr a b q
theorem cr_swap (a b c : Pn) : cr a c b = -cr a b c := by unfold cr; grind
theorem far_of {A C : Int} {L : List Pn} {a b : Pn} (ha : a ∈ L) (hb : b ∈ L) (h : Bord L a b) (hab : ph A C a < ph A C b) (hn : ∃ q ∈ L, cr a b q ≠ 0) (hinj : ∀ k ∈ L, ph A C k = ph A C a → k = a)
  (hnx : (∀ q ∈ L, ph A C q ≤ ph A C b) ∨ ∃ c ∈ L, ph A C b < ph A C c ∧ 0 < cr a b c ∧ Bord L b c) (k : Pn) (hk : k ∈ L) (hka : k ≠ a) (hkb : Bord L a k) : cr a b k = 0 ∧ ph A C a < ph A C k ∧ ph A C k ≤ ph A C b := by
 have h0 : cr a b k = 0 := by
  have h1 := h k hk
  have h2 := hkb b hb
  rw [cr_swap] at h2
  omega
 have hak : ph A C a < ph A C k := by
  apply Classical.byContradiction
  intro hlt
  have hne : ph A C k ≠ ph A C a := fun e => hka (hinj k hk e)
  obtain ⟨q, hq, hqn⟩ := hn
  have h1 := h q hq
  have h2 := hkb q hq
  have e := id3 (A := A) (C := C) a b k q
  rw [h0, Int.mul_zero, Int.sub_zero] at e
  have p1 := Int.mul_nonneg (show 0 ≤ ph A C b - ph A C a by omega) h2
  have p2 := Int.mul_neg_of_neg_of_pos (show ph A C k - ph A C a < 0 by omega) (show 0 < cr a b q by omega)
  omega
 refine ⟨h0, hak, ?_⟩
 rcases hnx with hm | ⟨c, hc, hbc, hcr, hB⟩
 ·exact hm k hk
 ·apply Classical.byContradiction
  intro hlt
  have e := id1 (A := A) (C := C) a b c k
  rw [h0, Int.mul_zero] at e
  have p1 := Int.mul_nonneg (show 0 ≤ ph A C b - ph A C a by omega) (hB k hk)
  have p2 := Int.mul_pos (show 0 < ph A C k - ph A C b by omega) hcr
  omega
theorem flat_of {a b : Pn} (hab : a ≠ b) {p q r : Pn} (hp : cr a b p = 0) (hq : cr a b q = 0) (hr : cr a b r = 0) : cr p q r = 0 := by
 have k1 : (b.x - a.x) * cr p q r = (q.x - p.x) * cr a b r - (r.x - p.x) * cr a b q + (r.x - q.x) * cr a b p := by unfold cr; grind
 have k2 : (b.y - a.y) * cr p q r = (q.y - p.y) * cr a b r - (r.y - p.y) * cr a b q + (r.y - q.y) * cr a b p := by unfold cr; grind
 rw [hp, hq, hr] at k1 k2
 simp only [Int.mul_zero, Int.sub_zero, Int.add_zero] at k1 k2
 rcases Int.mul_eq_zero.1 k1 with h1 | h1
 ·rcases Int.mul_eq_zero.1 k2 with h2 | h2
  ·refine absurd ?_ hab
   cases a
   cases b
   simp only [Pn.mk.injEq] at *
   omega
  ·exact h2
 ·exact h1
def OnSeg (k a b : Pn) : Prop := cr a b k = 0 ∧ (min a.x b.x ≤ k.x ∧ k.x ≤ max a.x b.x) ∧ (min a.y b.y ≤ k.y ∧ k.y ≤ max a.y b.y)
theorem between {D E u v : Int} (hD : 0 < D) (h0 : 0 ≤ E) (h1 : E ≤ D) (h : D * u = E * v) : (0 ≤ v → 0 ≤ u ∧ u ≤ v) ∧ (v ≤ 0 → v ≤ u ∧ u ≤ 0) := by
 refine ⟨fun hv => ?_, fun hv => ?_⟩
 ·have p1 := Int.mul_nonneg h0 hv
  have p2 := Int.mul_le_mul_of_nonneg_right h1 hv
  refine ⟨nn_of hD (by omega), ?_⟩
  have : 0 ≤ D * (v - u) := by rw [Int.mul_sub]; omega
  have := nn_of hD this
  omega
 ·have p1 := Int.mul_nonneg h0 (show 0 ≤ -v by omega)
  have p2 := Int.mul_le_mul_of_nonneg_right h1 (show 0 ≤ -v by omega)
  rw [Int.mul_neg] at p1
  rw [Int.mul_neg, Int.mul_neg] at p2
  refine ⟨?_, ?_⟩
  ·have : 0 ≤ D * (u - v) := by rw [Int.mul_sub]; omega
   have := nn_of hD this
   omega
  ·have : 0 ≤ D * (-u) := by rw [Int.mul_neg]; omega
   have := nn_of hD this
   omega
theorem seg_of {A C : Int} {a b k : Pn} (hab : ph A C a < ph A C b) (h0 : cr a b k = 0) (h1 : ph A C a ≤ ph A C k) (h2 : ph A C k ≤ ph A C b) : OnSeg k a b := by
 have kx : (ph A C b - ph A C a) * (k.x - a.x) = (ph A C k - ph A C a) * (b.x - a.x) := by
  have : (ph A C b - ph A C a) * (k.x - a.x) = (ph A C k - ph A C a) * (b.x - a.x) - C * cr a b k := by unfold ph cr; grind
  rw [this, h0]
  omega
 have ky : (ph A C b - ph A C a) * (k.y - a.y) = (ph A C k - ph A C a) * (b.y - a.y) := by
  have : (ph A C b - ph A C a) * (k.y - a.y) = (ph A C k - ph A C a) * (b.y - a.y) + A * cr a b k := by unfold ph cr; grind
  rw [this, h0]
  omega
 have bx := between (by omega) (by omega) (by omega) kx
 have hy := between (by omega) (by omega) (by omega) ky
 refine ⟨h0, ?_, ?_⟩
 ·rcases Int.le_total 0 (b.x - a.x) with h | h
  ·have := bx.1 h; omega
  ·have := bx.2 h; omega
 ·rcases Int.le_total 0 (b.y - a.y) with h | h
  ·have := hy.1 h; omega
  ·have := hy.2 h; omega
theorem OnSeg.anti {a b k : Pn} (h1 : OnSeg k a b) (h2 : OnSeg b a k) : k = b := by
 obtain ⟨_, ⟨p1, p2⟩, p3, p4⟩ := h1
 obtain ⟨_, ⟨q1, q2⟩, q3, q4⟩ := h2
 cases a; cases b; cases k
 simp only [Pn.mk.injEq] at *
 omega
structure Nx (L : List Pn) (a b : Pn) : Prop where
 mem : b ∈ L
 ne : b ≠ a
 bord : Bord L a b
 far : ∀ k ∈ L, k ≠ a → Bord L a k → OnSeg k a b
theorem Nx.uniq {L : List Pn} {a b b' : Pn} (h : Nx L a b) (h' : Nx L a b') : b = b' := (h.far b' h'.mem h'.ne h'.bord).anti (h'.far b h.mem h.ne h.bord) |>.symm
theorem chain_nx {A C : Int} {L : List Pn} (hinj : ∀ k ∈ L, ∀ q ∈ L, ph A C k = ph A C q → k = q) (hfl : ∃ p ∈ L, ∃ q ∈ L, ∃ r ∈ L, cr p q r ≠ 0) : ∀ (st : List Pn), Good A C L st → (∀ x ∈ st, x ∈ L) →
  ∀ (c : Pn), st.head? = some c → ((∀ q ∈ L, ph A C q ≤ ph A C c) ∨ ∃ d ∈ L, ph A C c < ph A C d ∧ (∀ b r, st = c :: b :: r → 0 < cr b c d) ∧ Bord L c d) →
  ∀ (i : Nat) (x y : Pn), st[i + 1]? = some x → st[i]? = some y → Nx L x y
 | [], _, _, _, h, _, _, _, _, _, _ => by simp at h
 | [c], _, _, _, _, _, i, x, y, hx, _ => by simp at hx
 | c :: b :: r, hg, hm, c', hc, hnx, i, x, y, hx, hy => by
  obtain rfl : c = c' := by simpa using hc
  obtain ⟨g1, g2, g3, g4⟩ := hg
  have hb : b ∈ L := hm b (by simp)
  have hcm : c ∈ L := hm c (by simp)
  cases i with
  | succ i =>
   exact chain_nx hinj hfl (b :: r) g4 (fun x hx => hm x (by simp at hx ⊢; right; exact hx)) b rfl (.inr ⟨c, hcm, g1, fun a r' e => by cases e; exact g3 a r' rfl, g2⟩) i x y (by simpa using hx) (by simpa using hy)
  | zero =>
   obtain rfl : b = x := by simpa using hx
   obtain rfl : c = y := by simpa using hy
   have hn : ∃ q ∈ L, cr b c q ≠ 0 := by
    apply Classical.byContradiction
    intro hno
    have hall : ∀ q ∈ L, cr b c q = 0 := fun q hq => Classical.byContradiction fun h => hno ⟨q, hq, h⟩
    obtain ⟨p, hp, q, hq, r, hr, h⟩ := hfl
    exact h (flat_of (a := b) (b := c) (fun e => by rw [e] at g1; omega) (hall p hp) (hall q hq) (hall r hr))
   refine ⟨hcm, fun e => by rw [e] at g1; omega, g2, fun k hk hkb hkB => ?_⟩
   have := far_of (A := A) (C := C) hb hcm g2 g1 hn (fun k hk e => hinj k hk b hb e) (by
    rcases hnx with h | ⟨d, hd, h1, h2, h3⟩
    ·exact .inl h
    ·exact .inr ⟨d, hd, h1, h2 b r rfl, h3⟩) k hk hkb hkB
   exact seg_of (A := A) (C := C) g1 this.1 (Int.le_of_lt this.2.1) this.2.2
end Go.Me
end
/- Chapter 6 in plain Lean: the whole hull: both chains, one behind the other. -/
section
set_option linter.unusedSimpArgs false
set_option linter.unusedVariables false
namespace Go.Me
def Steps (L : List Pn) (l : List Pn) : Prop := ∀ (i : Nat) (a b : Pn), l[i]? = some a → l[i + 1]? = some b → Nx L a b
theorem chain_steps {A C : Int} {L ps : List Pn} (hL : ∀ x, x ∈ ps ↔ x ∈ L) (hp : ps.Pairwise fun a b => ph A C a < ph A C b) (hinj : ∀ k ∈ L, ∀ q ∈ L, ph A C k = ph A C q → k = q) (hfl : ∃ p ∈ L, ∃ q ∈ L, ∃ r ∈ L, cr p q r ≠ 0) :
  Steps L (chain ps).reverse := by
 have hc := chained ps hp
 intro i a b ha hb
 have hst : ∀ x ∈ chain ps, x ∈ L := fun x hx => (hL x).1 (hc.sub x hx)
 have hlen : i + 1 < (chain ps).length := by
  have := (List.getElem?_eq_some_iff.1 hb).1
  simpa using this
 rw [List.getElem?_reverse (by omega)] at ha hb
 have hne : ∃ c, (chain ps).head? = some c := by
  cases h : chain ps with
  | nil => rw [h] at hlen; simp at hlen
  | cons c r => exact ⟨c, rfl⟩
 obtain ⟨c, hcc⟩ := hne
 have hmax : ∀ q ∈ L, ph A C q ≤ ph A C c := fun q hq => by
  have hq' := (hL q).2 hq
  have hlast : ps.getLast? = some c := by rw [← hc.top]; exact hcc
  obtain ⟨ini, hini⟩ := List.getLast?_eq_some_iff.1 hlast
  rw [hini] at hq' hp
  rcases List.mem_append.1 hq' with h | h
  ·exact Int.le_of_lt ((List.pairwise_append.1 hp).2.2 q h c (by simp))
  ·have : q = c := by simpa using h
   rw [this]
   exact Int.le_refl _
 refine chain_nx (A := A) (C := C) hinj hfl (chain ps) (Good.mono (fun q hq => (hL q).2 hq) _ hc.good) hst c hcc (.inl hmax) ((chain ps).length - 1 - (i + 1)) a b ?_ hb
 rw [show (chain ps).length - 1 - (i + 1) + 1 = (chain ps).length - 1 - i by omega]
 exact ha
theorem ph_neg (A C : Int) (p : Pn) : ph (-A) (-C) p = -ph A C p := by unfold ph; grind
def corners (ps : List Pn) : List Pn := (chain ps).reverse.dropLast ++ (chain ps.reverse).reverse.dropLast
theorem steps_join {L l k : List Pn} {x : Pn} (h1 : Steps L l) (h2 : Steps L k) (hl : l.getLast? = some x) (hk : k.head? = some x) : Steps L (l.dropLast ++ k) := by
 obtain ⟨ini, rfl⟩ := List.getLast?_eq_some_iff.1 hl
 obtain ⟨r, rfl⟩ : ∃ r, k = x :: r := by
  cases k with
  | nil => simp at hk
  | cons y r => exact ⟨r, by simpa using hk⟩
 rw [List.dropLast_concat]
 intro i a b ha hb
 by_cases hi : i + 1 < ini.length
 ·refine h1 i a b ?_ ?_
  ·rw [List.getElem?_append_left (by omega)] at ha ⊢; exact ha
  ·rw [List.getElem?_append_left (by omega)] at hb ⊢; exact hb
 ·by_cases hi' : i + 1 = ini.length
  ·refine h1 i a b ?_ ?_
   ·rw [List.getElem?_append_left (by omega)] at ha ⊢; exact ha
   ·rw [List.getElem?_append_right (by omega)] at hb ⊢
    rw [show i + 1 - ini.length = 0 by omega] at hb ⊢
    simpa using hb
  ·refine h2 (i - ini.length) a b ?_ ?_
   ·rw [List.getElem?_append_right (by omega)] at ha; exact ha
   ·rw [List.getElem?_append_right (by omega)] at hb
    rw [show i - ini.length + 1 = i + 1 - ini.length by omega]
    exact hb
theorem chain_ends {A C : Int} {ps : List Pn} (hp : ps.Pairwise fun a b => ph A C a < ph A C b) : (chain ps).reverse.getLast? = ps.getLast? ∧ (chain ps).reverse.head? = ps.head? := by
 have hc := chained ps hp
 refine ⟨by rw [List.getLast?_reverse]; exact hc.top, ?_⟩
 rw [List.head?_reverse]
 cases ps with
 | nil => rfl
 | cons a r =>
  cases h : (chain (a :: r)).getLast? with
  | none =>
   have : chain (a :: r) = [] := List.getLast?_eq_none_iff.1 h
   have ht := hc.top
   rw [this] at ht
   cases List.getLast?_eq_none_iff.1 ht.symm
  | some x =>
   have h1 := hc.low x h a (by simp)
   have h2 := hc.sub x (List.mem_of_getLast? h)
   rcases List.mem_cons.1 h2 with e | h2
   ·rw [e]; rfl
   ·have := (List.pairwise_cons.1 hp).1 x h2
    omega
theorem corners_steps {A C : Int} {ps : List Pn} (hp : ps.Pairwise fun a b => ph A C a < ph A C b) (hinj : ∀ k ∈ ps, ∀ q ∈ ps, ph A C k = ph A C q → k = q) (hfl : ∃ p ∈ ps, ∃ q ∈ ps, ∃ r ∈ ps, cr p q r ≠ 0) :
  ∃ x, ps.head? = some x ∧ Steps ps (corners ps ++ [x]) ∧ (corners ps).head? = some x := by
 have hpr : ps.reverse.Pairwise fun a b => ph (-A) (-C) a < ph (-A) (-C) b := by
  rw [List.pairwise_reverse]
  exact hp.imp fun h => by rw [ph_neg, ph_neg]; omega
 have s1 := chain_steps (L := ps) (fun x => Iff.rfl) hp hinj hfl
 have s2 := chain_steps (A := -A) (C := -C) (L := ps) (ps := ps.reverse) (fun x => List.mem_reverse) hpr (fun k hk q hq h => hinj k hk q hq (by rw [ph_neg, ph_neg] at h; omega)) hfl
 obtain ⟨e1, e2⟩ := chain_ends hp
 obtain ⟨e3, e4⟩ := chain_ends hpr
 cases ps with
 | nil => obtain ⟨p, hp', _⟩ := hfl; simp at hp'
 | cons a r =>
  refine ⟨a, rfl, ?_, ?_⟩
  ·obtain ⟨z, hz⟩ : ∃ z, (a :: r).getLast? = some z := by
    cases h : (a :: r).getLast? with
    | none => simp at h
    | some z => exact ⟨z, rfl⟩
   have hj := steps_join s1 s2 (x := z) (by rw [e1]; exact hz) (by rw [e4, List.head?_reverse]; exact hz)
   have hl : (chain (a :: r).reverse).reverse.getLast? = some a := by rw [e3, List.getLast?_reverse]; rfl
   obtain ⟨ini, hini⟩ := List.getLast?_eq_some_iff.1 hl
   unfold corners
   rw [hini, List.dropLast_concat, List.append_assoc, ← hini]
   exact hj
  ·-- there are two points at least, so the first chain is not cut away
   have hz : (chain (a :: r)).reverse.head? = some a := by rw [e2]; rfl
   obtain ⟨k, hk⟩ : ∃ k, (chain (a :: r)).reverse = a :: k := by
    cases h : (chain (a :: r)).reverse with
    | nil => rw [h] at hz; simp at hz
    | cons y k => rw [h] at hz; exact ⟨k, by simpa using hz⟩
   cases k with
   | cons b k' => unfold corners; rw [hk]; rfl
   | nil =>
    rw [hk] at e1
    have hla : (a :: r).getLast? = some a := by rw [← e1]; rfl
    obtain ⟨ini, hini⟩ := List.getLast?_eq_some_iff.1 hla
    cases ini with
    | nil =>
     have : r = [] := by simpa using hini
     subst this
     obtain ⟨p, h1, q, h2, t, h3, h4⟩ := hfl
     simp at h1 h2 h3
     subst h1 h2 h3
     exact absurd (cr_self _ _) h4
    | cons y ini' =>
     have e : y = a ∧ r = ini' ++ [a] := by
      have := hini
      simp at this
      exact ⟨this.1.symm, this.2⟩
     have := (List.pairwise_cons.1 hp).1 a (by rw [e.2]; simp)
     omega
end Go.Me
end
/- Chapter 6 in plain Lean: the corners are different ones, three at least; on a line there are two at most. -/
section
set_option linter.unusedSimpArgs false
set_option linter.unusedVariables false
namespace Go.Me
theorem Good.sorted {A C : Int} {s : List Pn} : ∀ st : List Pn, Good A C s st → st.Pairwise fun a b => ph A C b < ph A C a
 | [], _ => .nil
 | [c], _ => List.pairwise_singleton _ _
 | c :: b :: r, hg => by
  have ih := Good.sorted (b :: r) hg.2.2.2
  refine List.pairwise_cons.2 ⟨fun q hq => ?_, ih⟩
  rcases List.mem_cons.1 hq with rfl | hq
  ·exact hg.1
  ·have := (List.pairwise_cons.1 ih).1 q hq
   have := hg.1
   omega
theorem corners_ne {A C : Int} {ps : List Pn} {x : Pn} (hp : ps.Pairwise fun a b => ph A C a < ph A C b) (hx : ps.head? = some x) (hc : (corners ps).head? = some x) : ∀ (i : Nat) (y : Pn), (corners ps)[i]? = some y → 1 ≤ i → y ≠ x := by
 have hpr : ps.reverse.Pairwise fun a b => ph (-A) (-C) a < ph (-A) (-C) b := by
  rw [List.pairwise_reverse]
  exact hp.imp fun h => by rw [ph_neg, ph_neg]; omega
 obtain ⟨e1, e2⟩ := chain_ends hp
 obtain ⟨e3, e4⟩ := chain_ends hpr
 have p1 : (chain ps).reverse.Pairwise fun a b => ph A C a < ph A C b := List.pairwise_reverse.2 ((chained ps hp).good.sorted _)
 have p2 : (chain ps.reverse).reverse.Pairwise fun a b => ph A C b < ph A C a := by
  refine List.pairwise_reverse.2 (((chained _ hpr).good.sorted _).imp fun h => ?_)
  rw [ph_neg, ph_neg] at h
  omega
 have q2 : ∀ y ∈ (chain ps.reverse).reverse.dropLast, ph A C x < ph A C y := by
  intro y hy
  have hl : (chain ps.reverse).reverse.getLast? = some x := by rw [e3, List.getLast?_reverse]; exact hx
  obtain ⟨ini, hini⟩ := List.getLast?_eq_some_iff.1 hl
  rw [hini] at hy p2
  rw [List.dropLast_concat] at hy
  exact (List.pairwise_append.1 p2).2.2 y hy x (by simp)
 intro i y hy hi e
 subst e
 unfold corners at hy hc
 generalize hlo : (chain ps).reverse.dropLast = lo at hy hc
 by_cases hlt : i < lo.length
 ·rw [List.getElem?_append_left hlt] at hy
  cases lo with
  | nil => simp at hlt
  | cons a r =>
   have ha : a = y := by simpa using hc
   subst ha
   obtain ⟨j, rfl⟩ : ∃ j, i = j + 1 := ⟨i - 1, by omega⟩
   have hyr : a ∈ r := List.mem_of_getElem? (by simpa using hy)
   have hsub : (a :: r).Pairwise fun a b => ph A C a < ph A C b := by
    rw [← hlo]
    exact p1.sublist (List.dropLast_sublist _)
   have := (List.pairwise_cons.1 hsub).1 a hyr
   omega
 ·rw [List.getElem?_append_right (by omega)] at hy
  have := q2 y (List.mem_of_getElem? hy)
  omega
theorem corners_nodup {ps : List Pn} {x : Pn} (hst : Steps ps (corners ps ++ [x])) (hne : ∀ (i : Nat) (y : Pn), (corners ps)[i]? = some y → 1 ≤ i → y ≠ x) (hc : (corners ps).head? = some x) :
  ∀ (i j : Nat) (y : Pn), i < j → (corners ps)[i]? = some y → (corners ps)[j]? = some y → False := by
 generalize corners ps = cs at *
 intro i j y hij hi hj
 have hjl := (List.getElem?_eq_some_iff.1 hj).1
 have key : ∀ t, j + t ≤ cs.length → (cs ++ [x])[i + t]? = (cs ++ [x])[j + t]? := by
  intro t
  induction t with
  | zero =>
   intro _
   rw [Nat.add_zero, Nat.add_zero, List.getElem?_append_left (by omega), List.getElem?_append_left (by omega), hi, hj]
  | succ t ih =>
   intro ht
   have h := ih (by omega)
   have h1 : i + t + 1 < (cs ++ [x]).length := by simp; omega
   have h2 : j + t + 1 < (cs ++ [x]).length := by simp; omega
   have n1 := hst (i + t) _ _ (List.getElem?_eq_getElem (by omega)) (List.getElem?_eq_getElem h1)
   have n2 := hst (j + t) _ _ (List.getElem?_eq_getElem (by omega)) (List.getElem?_eq_getElem h2)
   have e : (cs ++ [x])[i + t] = (cs ++ [x])[j + t] := by
    rw [List.getElem?_eq_getElem (by omega), List.getElem?_eq_getElem (by omega)] at h
    exact Option.some.inj h
   rw [e] at n1
   have := n1.uniq n2
   rw [← Nat.add_assoc, ← Nat.add_assoc, List.getElem?_eq_getElem h1, List.getElem?_eq_getElem h2, this]
 have h := key (cs.length - j) (by omega)
 rw [show j + (cs.length - j) = cs.length by omega, List.getElem?_append_left (by omega)] at h
 have hx : (cs ++ [x])[cs.length]? = some x := by simp
 rw [hx] at h
 exact hne _ x h (by omega) rfl
theorem le_of_nodup : ∀ (l ps : List Pn), l.Nodup → (∀ y ∈ l, y ∈ ps) → l.length ≤ ps.length
 | [], ps, _, _ => by simp
 | a :: l, ps, hn, hs => by
  have ha := hs a (by simp)
  have ih := le_of_nodup l (ps.erase a) (List.nodup_cons.1 hn).2 (fun y hy => by
   have hya : y ≠ a := fun e => (List.nodup_cons.1 hn).1 (e ▸ hy)
   exact (List.mem_erase_of_ne hya).2 (hs y (by simp [hy])))
  rw [List.length_erase_of_mem ha] at ih
  have := List.length_pos_of_mem ha
  simp
  omega
theorem chain_flat {ps : List Pn} (h : ∀ p ∈ ps, ∀ q ∈ ps, ∀ r ∈ ps, cr p q r = 0) : (chain ps).length ≤ 2 := by
 have key : ∀ n (qs : List Pn), qs.length = n → (∀ x ∈ qs, x ∈ ps) → (chain qs).length ≤ 2 ∧ ∀ x ∈ chain qs, x ∈ ps := by
  intro n
  induction n with
  | zero =>
   intro qs hl _
   obtain rfl := List.length_eq_zero_iff.1 hl
   exact ⟨by simp [chain], fun x hx => by simp [chain] at hx⟩
  | succ n ih =>
   intro qs hl hs
   have hne : qs ≠ [] := fun e => by rw [e] at hl; simp at hl
   obtain ⟨ini, p, rfl⟩ : ∃ ini p, qs = ini ++ [p] := ⟨qs.dropLast, qs.getLast hne, (List.dropLast_concat_getLast hne).symm⟩
   obtain ⟨h1, h2⟩ := ih ini (by simpa using hl) (fun x hx => hs x (by simp [hx]))
   have hp := hs p (by simp)
   rw [chain_snoc]
   refine ⟨?_, fun x hx => ?_⟩
   ·match hc : chain ini, h1, h2 with
    | [], _, _ => simp [pop]
    | [b], _, _ => simp [pop]
    | [b, a], _, h2 =>
     rw [pop, if_pos (Int.le_of_eq (h a (h2 a (by simp)) b (h2 b (by simp)) p hp))]
     simp [pop]
    | _ :: _ :: _ :: _, h1, _ => simp at h1
   ·rcases List.mem_cons.1 hx with rfl | hx
    ·exact hp
    ·exact h2 x (pop_sub p _ x hx)
 exact (key _ ps rfl fun x hx => hx).1
theorem corners_flat {ps : List Pn} (h : ∀ p ∈ ps, ∀ q ∈ ps, ∀ r ∈ ps, cr p q r = 0) : (corners ps).length ≤ 2 := by
 have h1 := chain_flat h
 have h2 := chain_flat (ps := ps.reverse) (fun p hp q hq r hr => h p (by simpa using hp) q (by simpa using hq) r (by simpa using hr))
 unfold corners
 simp
 omega
theorem corners_three {ps : List Pn} {x : Pn} (hst : Steps ps (corners ps ++ [x])) (hc : (corners ps).head? = some x) (hxm : x ∈ ps) (hfl : ∃ p ∈ ps, ∃ q ∈ ps, ∃ r ∈ ps, cr p q r ≠ 0) : 3 ≤ (corners ps).length := by
 match hcs : corners ps, hst, hc with
 | [], _, hc => simp at hc
 | [a], hst, hc =>
  have ha : a = x := by simpa using hc
  exact absurd ha.symm (hst 0 a x rfl rfl).ne
 | [a, b], hst, hc =>
  have ha : a = x := by simpa using hc
  subst ha
  have n1 := hst 0 a b rfl rfl
  have n2 := hst 1 b a rfl rfl
  obtain ⟨p, hp, q, hq, r, hr, h⟩ := hfl
  have hz : ∀ k ∈ ps, cr a b k = 0 := fun k hk => by
   have h1 := n1.bord k hk
   have h2 := n2.bord k hk
   have : cr b a k = -cr a b k := by unfold cr; grind
   omega
  exact absurd (flat_of (Ne.symm n1.ne) (hz p hp) (hz q hq) (hz r hr)) h
 | _ :: _ :: _ :: _, _, _ => simp
end Go.Me
end
/- Chapter 6 in plain Lean: hulls by the numbers of points: the program's, and the reference's way around. -/
section
set_option linter.unusedSimpArgs false
set_option linter.unusedVariables false
namespace Go.Me
def pt (l : List Pn) (i : Nat) : Pn := l.getD i ⟨0, 0⟩
theorem pt_mem {l : List Pn} {i : Nat} (h : i < l.length) : pt l i ∈ l := by
 unfold pt
 rw [List.getD_eq_getElem?_getD, List.getElem?_eq_getElem h]
 exact List.getElem_mem h
theorem mem_pt {l : List Pn} {p : Pn} (h : p ∈ l) : ∃ i, i < l.length ∧ pt l i = p := by
 obtain ⟨i, hi, e⟩ := List.mem_iff_getElem.1 h
 refine ⟨i, hi, ?_⟩
 unfold pt
 rw [List.getD_eq_getElem?_getD, List.getElem?_eq_getElem hi]
 exact e
def Apart (l : List Pn) : Prop := ∀ i j, i < l.length → j < l.length → pt l i = pt l j → i = j
theorem cr_self' (b p : Pn) : cr b b p = 0 := by unfold cr; grind
def popI (l : List Pn) (p : Nat) : List Nat → List Nat
 | b :: a :: r => if cr (pt l a) (pt l b) (pt l p) ≤ 0 then popI l p (a :: r) else b :: a :: r
 | s => s
def chainI (l : List Pn) (ps : List Nat) : List Nat := ps.foldl (fun st p => p :: popI l p st) []
theorem popI_map (l : List Pn) (p : Nat) : ∀ st : List Nat, (popI l p st).map (pt l) = pop (pt l p) (st.map (pt l))
 | [] => rfl
 | [_] => rfl
 | b :: a :: r => by
  unfold popI
  show _ = pop (pt l p) (pt l b :: pt l a :: r.map (pt l))
  unfold pop
  by_cases h : cr (pt l a) (pt l b) (pt l p) ≤ 0
  ·rw [if_pos h, if_pos h]
   exact popI_map l p (a :: r)
  ·rw [if_neg h, if_neg h]
   rfl
theorem chainI_map (l : List Pn) (ps : List Nat) : (chainI l ps).map (pt l) = chain (ps.map (pt l)) := by
 unfold chainI chain
 rw [List.foldl_map]
 have key : ∀ (ps : List Nat) (st : List Nat), (ps.foldl (fun st p => p :: popI l p st) st).map (pt l) = ps.foldl (fun st p => pt l p :: pop (pt l p) st) (st.map (pt l)) := by
  intro ps
  induction ps with
  | nil => intro st; rfl
  | cons p ps ih =>
   intro st
   rw [List.foldl_cons, List.foldl_cons, ih, List.map_cons, popI_map]
 exact key ps []
def hullI (l : List Pn) (ord : List Nat) : List Nat := (chainI l ord).reverse.dropLast ++ (chainI l ord.reverse).reverse.dropLast
theorem hullI_map (l : List Pn) (ord : List Nat) : (hullI l ord).map (pt l) = corners (ord.map (pt l)) := by
 unfold hullI corners
 rw [List.map_append, List.map_dropLast, List.map_dropLast, List.map_reverse, List.map_reverse, chainI_map, chainI_map, List.map_reverse]
theorem popI_sub (l : List Pn) (p : Nat) : ∀ (st : List Nat) (x : Nat), x ∈ popI l p st → x ∈ st
 | [], x, h => h
 | [_], x, h => h
 | b :: a :: r, x, h => by
  unfold popI at h
  split at h
  ·exact List.mem_cons_of_mem _ (popI_sub l p (a :: r) x h)
  ·exact h
theorem chainI_sub (l : List Pn) (ps : List Nat) : ∀ x ∈ chainI l ps, x ∈ ps := by
 unfold chainI
 have key : ∀ (ps st : List Nat) (x : Nat), x ∈ ps.foldl (fun st p => p :: popI l p st) st → x ∈ ps ∨ x ∈ st := by
  intro ps
  induction ps with
  | nil => intro st x h; exact .inr h
  | cons p ps ih =>
   intro st x h
   rw [List.foldl_cons] at h
   rcases ih _ x h with h | h
   ·exact .inl (by simp [h])
   ·rcases List.mem_cons.1 h with rfl | h
    ·exact .inl (by simp)
    ·exact .inr (popI_sub l p st x h)
 intro x hx
 rcases key ps [] x hx with h | h
 ·exact h
 ·simp at h
theorem hullI_sub (l : List Pn) (ord : List Nat) : ∀ x ∈ hullI l ord, x ∈ ord := by
 intro x hx
 rcases List.mem_append.1 hx with h | h
 ·exact chainI_sub l ord x (by simpa using (List.dropLast_sublist _).subset h)
 ·simpa using chainI_sub l ord.reverse x (by simpa using (List.dropLast_sublist _).subset h)
def Cand (l : List Pn) (at_ k : Nat) : Prop := k ≠ at_ ∧ Bord l (pt l at_) (pt l k)
open Classical in
noncomputable def nextStep (l : List Pn) (at_ : Nat) (best : Option Nat) (k : Nat) : Option Nat :=
 if Cand l at_ k ∧ (∀ j, best = some j → OnSeg (pt l j) (pt l at_) (pt l k)) then some k else best
noncomputable def nextTo (l : List Pn) (at_ : Nat) : Nat → Option Nat
 | 0 => none
 | k + 1 => nextStep l at_ (nextTo l at_ k) k
theorem nextTo_cand {l : List Pn} {at_ : Nat} : ∀ (k j : Nat), nextTo l at_ k = some j → j < k ∧ Cand l at_ j
 | 0, j, h => by cases h
 | k + 1, j, h => by
  unfold nextTo nextStep at h
  split at h
  ·rename_i hc
   cases h
   exact ⟨by omega, hc.1⟩
  ·have := nextTo_cand k j h
   exact ⟨by omega, this.2⟩
theorem nextTo_eq {l : List Pn} (hap : Apart l) {a b : Nat} (ha : a < l.length) (hb : b < l.length) (h : Nx l (pt l a) (pt l b)) : nextTo l a l.length = some b := by
 have hcb : Cand l a b := ⟨fun e => h.ne (by rw [e]), h.bord⟩
 have hfar : ∀ k, k < l.length → Cand l a k → OnSeg (pt l k) (pt l a) (pt l b) := fun k hk hc => h.far _ (pt_mem hk) (fun e => hc.1 (hap k a hk ha e)) hc.2
 have key : ∀ K, K ≤ l.length → b < K → nextTo l a K = some b := by
  intro K
  induction K with
  | zero => intro _ h; omega
  | succ K ih =>
   intro hK hbK
   unfold nextTo nextStep
   by_cases hKb : K = b
   ·subst hKb
    rw [if_pos]
    refine ⟨hcb, fun j hj => ?_⟩
    have := nextTo_cand K j hj
    exact hfar j (by omega) this.2
   ·rw [ih (by omega) (by omega), if_neg]
    rintro ⟨h1, h2⟩
    have := (hfar K (by omega) h1).anti (h2 b rfl)
    exact hKb (hap K b (by omega) hb this)
 exact key l.length (Nat.le_refl _) hb
def lexLt (p q : Pn) : Prop := p.x < q.x ∨ (p.x = q.x ∧ p.y < q.y)
theorem lex_ph {B : Int} {p q : Pn} (hp : -B ≤ p.y ∧ p.y ≤ B) (hq : -B ≤ q.y ∧ q.y ≤ B) (h : lexLt p q) : ph (2 * B + 1) 1 p < ph (2 * B + 1) 1 q := by
 unfold ph
 rcases h with h | ⟨h1, h2⟩
 ·have : (2 * B + 1) * p.x + (2 * B + 1) ≤ (2 * B + 1) * q.x := by
   have := Int.mul_le_mul_of_nonneg_left (show p.x + 1 ≤ q.x by omega) (show 0 ≤ 2 * B + 1 by omega)
   rw [Int.mul_add, Int.mul_one] at this
   exact this
  omega
 ·rw [h1]
  omega
structure Sorted (l : List Pn) (ord : List Nat) : Prop where
 mem : ∀ i, i ∈ ord ↔ i < l.length
 lex : ord.Pairwise fun i j => lexLt (pt l i) (pt l j)
theorem hull_ok {l : List Pn} {ord : List Nat} {B : Int} (hB : ∀ p ∈ l, -B ≤ p.y ∧ p.y ≤ B) (hap : Apart l) (hs : Sorted l ord) (hfl : ∃ p ∈ l, ∃ q ∈ l, ∃ r ∈ l, cr p q r ≠ 0) :
  3 ≤ (hullI l ord).length ∧ (hullI l ord).length ≤ l.length ∧ (hullI l ord).head? = ord.head? ∧ (∀ (i a b : Nat), (hullI l ord)[i]? = some a → (hullI l ord)[i + 1]? = some b → nextTo l a l.length = some b) ∧
  (∀ a f, (hullI l ord).getLast? = some a → ord.head? = some f → nextTo l a l.length = some f) ∧ (∀ (i a f : Nat), 1 ≤ i → (hullI l ord)[i]? = some a → ord.head? = some f → a ≠ f) := by
 have hpm : ∀ p, p ∈ ord.map (pt l) ↔ p ∈ l := fun p => by
  constructor
  ·intro h
   obtain ⟨i, hi, rfl⟩ := List.mem_map.1 h
   exact pt_mem ((hs.mem i).1 hi)
  ·intro h
   obtain ⟨i, hi, rfl⟩ := mem_pt h
   exact List.mem_map.2 ⟨i, (hs.mem i).2 hi, rfl⟩
 have hp : (ord.map (pt l)).Pairwise fun a b => ph (2 * B + 1) 1 a < ph (2 * B + 1) 1 b := by
  rw [List.pairwise_map]
  refine hs.lex.imp_of_mem fun {i j} hi hj h => ?_
  exact lex_ph (hB _ (pt_mem ((hs.mem i).1 hi))) (hB _ (pt_mem ((hs.mem j).1 hj))) h
 have hinj : ∀ k ∈ ord.map (pt l), ∀ q ∈ ord.map (pt l), ph (2 * B + 1) 1 k = ph (2 * B + 1) 1 q → k = q := by
  intro k hk q hq e
  have key : ∀ L : List Pn, (L.Pairwise fun a b => ph (2 * B + 1) 1 a < ph (2 * B + 1) 1 b) → k ∈ L → q ∈ L → k = q := by
   intro L
   induction L with
   | nil => intro _ h; simp at h
   | cons a L ih =>
    intro hpw h1 h2
    rw [List.pairwise_cons] at hpw
    rcases List.mem_cons.1 h1 with e1 | k1
    ·rcases List.mem_cons.1 h2 with e2 | k2
     ·rw [e1, e2]
     ·have := hpw.1 q k2; rw [← e1] at this; omega
    ·rcases List.mem_cons.1 h2 with e2 | k2
     ·have := hpw.1 k k1; rw [← e2] at this; omega
     ·exact ih hpw.2 k1 k2
  exact key _ hp hk hq
 have hfl' : ∃ p ∈ ord.map (pt l), ∃ q ∈ ord.map (pt l), ∃ r ∈ ord.map (pt l), cr p q r ≠ 0 := by
  obtain ⟨p, h1, q, h2, r, h3, h4⟩ := hfl
  exact ⟨p, (hpm p).2 h1, q, (hpm q).2 h2, r, (hpm r).2 h3, h4⟩
 obtain ⟨x, hx, hst, hhd⟩ := corners_steps hp hinj hfl'
 have hne := corners_ne hp hx hhd
 have hnd := corners_nodup hst hne hhd
 have hthree := corners_three hst hhd (List.mem_of_head? hx) hfl'
 rw [← hullI_map] at hst hhd hne hnd hthree
 have hsub := fun y (hy : y ∈ hullI l ord) => (hs.mem y).1 (hullI_sub l ord y hy)
 have hNl : ∀ {a b : Pn}, Nx (ord.map (pt l)) a b → Nx l a b := fun h => ⟨(hpm _).1 h.mem, h.ne, fun q hq => h.bord q ((hpm q).2 hq), fun k hk hka hB => h.far k ((hpm k).2 hk) hka fun q hq => hB q ((hpm q).1 hq)⟩
 obtain ⟨f, hf⟩ : ∃ f, ord.head? = some f := by
  cases ord with
  | nil => simp at hx
  | cons f r => exact ⟨f, rfl⟩
 have hfx : pt l f = x := by
  rw [List.head?_map, hf] at hx
  exact Option.some.inj hx
 have hfl2 : f < l.length := (hs.mem f).1 (List.mem_of_head? hf)
 generalize hcs : hullI l ord = cs at *
 rw [List.length_map] at hthree
 refine ⟨hthree, ?_, ?_, fun i a b ha hb => ?_, fun a f' ha hf' => ?_, fun i a f' hi ha hf' e => ?_⟩
 ·have : (cs.map (pt l)).Nodup := by
   rw [List.nodup_iff_pairwise_ne, List.pairwise_iff_getElem]
   intro i j hi hj hij e
   exact hnd i j _ hij (List.getElem?_eq_getElem hi) (by rw [e]; exact List.getElem?_eq_getElem hj)
  have := le_of_nodup _ l this (fun y hy => by
   obtain ⟨i, hi, rfl⟩ := List.mem_map.1 hy
   exact pt_mem (hsub i hi))
  rwa [List.length_map] at this
 ·rw [hf]
  cases cs with
  | nil => simp at hhd
  | cons c r =>
   have : pt l c = x := by simpa using hhd
   have := hap c f (hsub c (by simp)) hfl2 (this.trans hfx.symm)
   rw [this]
   rfl
 ·have hil := (List.getElem?_eq_some_iff.1 hb).1
  refine nextTo_eq hap (hsub a (List.mem_of_getElem? ha)) (hsub b (List.mem_of_getElem? hb)) (hNl (hst i _ _ ?_ ?_))
  ·rw [List.getElem?_append_left (by rw [List.length_map]; omega), List.getElem?_map, ha]; rfl
  ·rw [List.getElem?_append_left (by rw [List.length_map]; omega), List.getElem?_map, hb]; rfl
 ·rw [hf] at hf'
  cases hf'
  obtain ⟨ini, rfl⟩ := List.getLast?_eq_some_iff.1 ha
  refine nextTo_eq hap (hsub a (by simp)) hfl2 (hNl (hst ini.length _ _ ?_ ?_))
  ·rw [List.getElem?_append_left (by simp)]; simp
  ·rw [List.getElem?_append_right (by simp)]; simp [hfx]
 ·rw [hf] at hf'
  cases hf'
  subst e
  exact hne i (pt l a) (by rw [List.getElem?_map, ha]; rfl) hi hfx
def FlatR (l : List Pn) : Prop := ∀ i, 2 ≤ i → i < l.length → cr (pt l 0) (pt l 1) (pt l i) = 0
theorem flatR_all {l : List Pn} (hap : Apart l) (h : FlatR l) : ∀ p ∈ l, ∀ q ∈ l, ∀ r ∈ l, cr p q r = 0 := by
 intro p hp q hq r hr
 obtain ⟨i, hi, rfl⟩ := mem_pt hp
 obtain ⟨j, hj, rfl⟩ := mem_pt hq
 obtain ⟨k, hk, rfl⟩ := mem_pt hr
 by_cases h2 : 2 ≤ l.length
 ·have hne : pt l 0 ≠ pt l 1 := fun e => by
   have := hap 0 1 (by omega) (by omega) e
   omega
  have hz : ∀ i, i < l.length → cr (pt l 0) (pt l 1) (pt l i) = 0 := fun i hi => by
   match i, hi with
   | 0, _ => exact cr_base _ _
   | 1, _ => exact cr_self _ _
   | i + 2, hi => exact h (i + 2) (by omega) hi
  exact flat_of hne (hz i hi) (hz j hj) (hz k hk)
 ·obtain rfl : i = 0 := by omega
  obtain rfl : j = 0 := by omega
  exact cr_self' _ _
theorem not_flatR {l : List Pn} (h : ¬ FlatR l) : ∃ p ∈ l, ∃ q ∈ l, ∃ r ∈ l, cr p q r ≠ 0 := by
 apply Classical.byContradiction
 intro hno
 refine h fun i h2 hi => Classical.byContradiction fun hn => hno ⟨_, pt_mem (show 0 < l.length by omega), _, pt_mem (show 1 < l.length by omega), _, pt_mem hi, hn⟩
theorem hull_flat {l : List Pn} {ord : List Nat} (hap : Apart l) (hs : Sorted l ord) (h : FlatR l) : (hullI l ord).length ≤ 2 := by
 have := corners_flat (ps := ord.map (pt l)) (fun p hp q hq r hr => by
  have key : ∀ p ∈ ord.map (pt l), p ∈ l := fun p hp => by
   obtain ⟨i, hi, rfl⟩ := List.mem_map.1 hp
   exact pt_mem ((hs.mem i).1 hi)
  exact flatR_all hap h p (key p hp) q (key q hq) r (key r hr))
 rw [← hullI_map, List.length_map] at this
 exact this
theorem first_least {l : List Pn} {ord : List Nat} {f : Nat} (hs : Sorted l ord) (hf : ord.head? = some f) : f < l.length ∧ ∀ i, i < l.length → i = f ∨ lexLt (pt l f) (pt l i) := by
 refine ⟨(hs.mem f).1 (List.mem_of_head? hf), fun i hi => ?_⟩
 cases ord with
 | nil => simp at hf
 | cons g r =>
  obtain rfl : g = f := by simpa using hf
  rcases List.mem_cons.1 ((hs.mem i).2 hi) with e | h
  ·exact .inl e
  ·exact .inr ((List.pairwise_cons.1 hs.lex).1 i h)
end Go.Me
end
/- Chapter 6 in plain Lean: the circle through three points, and a fourth one. -/
section
set_option linter.unusedSimpArgs false
set_option linter.unusedVariables false
namespace Go.Me
def sgn (n : Int) : Int := if n < 0 then -1 else if n = 0 then 0 else 1
structure Pn.Ok (p : Pn) : Prop where
 x0 : -10000 ≤ p.x
 x1 : p.x ≤ 10000
 y0 : -10000 ≤ p.y
 y1 : p.y ≤ 10000
theorem mul_bd {m n a b : Int} (h1 : -a ≤ m ∧ m ≤ a) (h2 : -b ≤ n ∧ n ≤ b) (ha : 0 ≤ a) : -(a * b) ≤ m * n ∧ m * n ≤ a * b := by
 have hb : 0 ≤ b := by omega
 rcases Int.le_total 0 m with hm | hm
 ·have q1 : m * n ≤ m * b := Int.mul_le_mul_of_nonneg_left h2.2 hm
  have q2 : m * b ≤ a * b := Int.mul_le_mul_of_nonneg_right h1.2 hb
  have q3 : m * (-b) ≤ m * n := Int.mul_le_mul_of_nonneg_left h2.1 hm
  rw [Int.mul_neg] at q3
  omega
 ·have q1 : m * n ≤ m * (-b) := Int.mul_le_mul_of_nonpos_left hm h2.1
  have q2 : m * b ≤ m * n := Int.mul_le_mul_of_nonpos_left hm h2.2
  have q3 : (-m) * b ≤ a * b := Int.mul_le_mul_of_nonneg_right (by omega) hb
  rw [Int.mul_neg] at q1
  rw [Int.neg_mul] at q3
  omega
end Go.Me
end
/- The small memory: lists in a block, or empty ones of any kind. -/
section
set_option linter.unusedSimpArgs false
set_option linter.unusedVariables false
namespace Go
namespace Ab
open Go.RowKit
abbrev lostV : Value := .slice (some ⟨0, 0, some default⟩) 0 0
end Ab
end Go
end
/- Lists of values of whole numbers: in the small memory, and as arguments. -/
section
set_option linter.unusedSimpArgs false
set_option linter.unusedVariables false
namespace Go.Ls
open Go.ChangeShapes Go.WideShapes Go.ChangeAt Go Go.RowKit Go.Ab
set_option maxRecDepth 100000
theorem flat_len {α : Type} (f : α → List Value) (n : Nat) (h : ∀ x, (f x).length = n) : ∀ l : List α, (l.flatMap f).length = l.length * n
 | [] => by simp
 | x :: l => by rw [List.flatMap_cons, List.length_append, h, flat_len f n h l, List.length_cons, Nat.succ_mul]; omega
theorem flat_get {α : Type} (f : α → List Value) (n : Nat) (h : ∀ x, (f x).length = n) (d : α) : ∀ (l : List α) (k j : Nat), j < n → k < l.length → (l.flatMap f)[k * n + j]? = (f (l.getD k d))[j]?
 | [], k, _, _, hk => by simp at hk
 | x :: l, 0, j, hj, _ => by
  rw [List.flatMap_cons, List.getElem?_append_left (by rw [h]; omega)]; simp
 | x :: l, k + 1, j, hj, hk => by
  rw [List.flatMap_cons, List.getElem?_append_right (by rw [h, Nat.succ_mul]; omega), h, Nat.succ_mul, show k * n + n + j - n = k * n + j by omega, flat_get f n h d l k j hj (by simpa using hk)]
  simp
theorem flat_snoc {α : Type} (f : α → List Value) (l : List α) (x : α) : (l ++ [x]).flatMap f = l.flatMap f ++ f x := by simp
theorem flat_drop {α : Type} (f : α → List Value) (n : Nat) (h : ∀ x, (f x).length = n) (d : α) (l : List α) (k : Nat) (hk : k < l.length) : ((l.flatMap f).drop (k * n)).take n = f (l.getD k d) := by
 refine List.ext_getElem? fun i => ?_
 rw [List.getElem?_take]
 split
 ·rename_i hi
  rw [List.getElem?_drop, flat_get f n h d l k i hi hk]
 ·rename_i hi
  rw [List.getElem?_eq_none (by rw [h]; omega)]
theorem flat_scal {α : Type} (f : α → List Value) (h : ∀ x, (f x).all Ab.scal = true) (l : List α) : (l.flatMap f).all Ab.scal = true := List.all_eq_true.2 fun u hu => by
 obtain ⟨s, _, hs⟩ := List.mem_flatMap.1 hu
 exact List.all_eq_true.1 (h s) u hs
theorem flat_ld {α : Type} {m : Mem} {b : Nat} {blk : Blk} (f : α → List Value) (n : Nat) (h : ∀ x, (f x).length = n) (d : α) (l : List α) (hb : m.at b = some blk) (hc : blk.cells = l.flatMap f) (k : Nat) (hk : k < l.length) : m.ld b (k * n) n = some (f (l.getD k d)) := by
 have h1 := flat_len f n h l
 have h2 : k * n + n ≤ l.length * n := by rw [← Nat.succ_mul]; exact Nat.mul_le_mul_right _ hk
 unfold Mem.ld
 rw [hb]
 show (if k * n + n ≤ blk.cells.length then some ((blk.cells.drop (k * n)).take n) else none) = _
 rw [hc, if_pos (by omega), flat_drop f n h d l k hk]
theorem one_of_scal {cs : List Value} (h : cs.all Ab.scal = true) : cs.all Ab.one = true := List.all_eq_true.2 fun v hv => by
 have := List.all_eq_true.1 h v hv
 cases v <;> first | rfl | (simp [Ab.scal] at this)
section
variable {H : Type} {enc : TypeId × Value → H} {P : Program}
def intsT (P : Program) : Nat → TypeId → Bool
 | 0, _ => false
 | d + 1, t => match P.underlying t with
  | some (.int .i64) => true
  | some (.struct fs) => (fs.all fun f => intsT P d f.type) && (List.range (P.cellsOf t)).all fun i => fs.any fun f => decide (f.offset ≤ i ∧ i < f.offset + P.cellsOf f.type)
  | some (.array n e) => intsT P d e && (P.cellsOf t == n * P.cellsOf e) && decide (0 < P.cellsOf e)
  | _ => false
theorem ints_of {w : World} {base : Nat} {spare : Nat → Bool} {held : Bool} : ∀ (d : Nat) (t : TypeId) (fuel : Nat) (cs : List Value) (x : DataW H × List MemPlace), intsT P d t = true → DataW.trod enc P w base spare held fuel t cs = some x → ∀ v ∈ cs, ∃ n, v = .int .i64 n ∧ (Lit.int .i64 n).wf = true
 | 0, _, _, _, _, h, _ => by simp [intsT] at h
 | d + 1, t, fuel, cs, x, h, ht => by
  unfold intsT at h
  cases hu : P.underlying t with
  | none => rw [hu] at h; cases h
  | some u =>
   rw [hu] at h
   cases u with
   | int k =>
    cases k <;> simp only at h <;> first | (cases h; done) | skip
    obtain ⟨n, rfl, _, hw⟩ := DataW.trod_int hu ht
    intro v hv
    rw [List.mem_singleton] at hv
    exact ⟨n, hv, hw⟩
   | struct fs =>
    simp only [Bool.and_eq_true] at h
    obtain ⟨xs, n, _, _, hlen, hxl, hf⟩ := DataW.trod_struct hu ht
    intro v hv
    obtain ⟨i, hi, rfl⟩ := List.getElem_of_mem hv
    have hc := List.all_eq_true.1 h.2 i (List.mem_range.2 (by rw [← hlen]; exact hi))
    obtain ⟨f, hfm, hfi⟩ := Array.any_eq_true'.1 hc
    simp only [decide_eq_true_eq] at hfi
    obtain ⟨j, hj⟩ := Array.getElem?_of_mem hfm
    have hft := Array.all_eq_true'.1 h.1 f hfm
    have hjl : j < fs.size := (Array.getElem?_eq_some_iff.1 hj).1
    have h1 := hf j f hj
    rw [List.getElem?_eq_getElem (by omega)] at h1
    refine ints_of d f.type n _ _ hft h1 _ ?_
    refine List.mem_iff_getElem?.2 ⟨i - f.offset, ?_⟩
    rw [List.getElem?_take, if_pos (by omega), List.getElem?_drop, show f.offset + (i - f.offset) = i by omega, List.getElem?_eq_getElem hi]
   | array n e =>
    simp only [Bool.and_eq_true, beq_iff_eq, decide_eq_true_eq] at h
    obtain ⟨⟨h1, h2⟩, h3⟩ := h
    cases fuel with
    | zero => simp [DataW.trod] at ht
    | succ m =>
     unfold DataW.trod at ht
     rw [hu] at ht
     simp only at ht
     split at ht
     ·rename_i hlen
      simp only [Option.map_eq_some_iff] at ht
      obtain ⟨xs, hxs, _⟩ := ht
      intro v hv
      obtain ⟨i, hi, rfl⟩ := List.getElem_of_mem hv
      have hin : i / P.cellsOf e < n := by
       rw [hlen, h2] at hi
       exact Nat.div_lt_of_lt_mul (by rw [Nat.mul_comm]; exact hi)
      have hg := mapM_some_get hxs (i / P.cellsOf e) (i / P.cellsOf e) (by simp [hin])
      have hxl := mapM_some_length hxs
      rw [List.getElem?_eq_getElem (by rw [hxl]; simpa using hin)] at hg
      refine ints_of d e m _ _ h1 hg _ ?_
      refine List.mem_iff_getElem?.2 ⟨i % P.cellsOf e, ?_⟩
      have hmd := Nat.div_add_mod i (P.cellsOf e)
      rw [List.getElem?_take, if_pos (Nat.mod_lt _ h3), List.getElem?_drop, show i / P.cellsOf e * P.cellsOf e + i % P.cellsOf e = i by rw [Nat.mul_comm]; exact hmd, List.getElem?_eq_getElem hi]
     ·cases ht
   | _ => simp at h
end
theorem wf_bd {n : Int} (h : (Lit.int .i64 n).wf = true) : -9223372036854775808 ≤ n ∧ n ≤ 9223372036854775807 := by
 exact bounds_i64 h
def SlX (w : World) (a : Option Addr) (cs : List Value) : Prop := cs ≠ [] → ∃ b off, a = some ⟨b, off, none⟩ ∧ b < w.heap.size ∧ ∀ j, j < cs.length → w.cell? ⟨b, off + j, none⟩ = cs[j]?
theorem spot_none {w : World} {a : Addr} {v : Value} (h : w.cell? a = some v) : a.spot = none := by
 unfold World.cell? at h
 split at h
 ·split at h
  ·cases h
  ·rename_i hs; simpa using hs
 ·cases h
def rdI (w : World) (a : Addr) : Int := match w.cell? a with | some (.int .i64 n) => n | _ => 0
section
variable {H : Type} {enc : TypeId × Value → H} {P : Program} {w : World} {base : Nat} {spare : Nat → Bool} {held : Bool}
theorem open_ints {α : Type} {t e : TypeId} {n : Nat} (c : α → List Value) (hc : ∀ x, (c x).length = n) (mk : (Nat → Int) → α) (hmk : ∀ f j, j < n → (c (mk f))[j]? = some (.int .i64 (f j))) (hu : P.underlying t = some (.slice e)) (hce : P.cellsOf e = n) (hn : 0 < n) (hi0 : intsT P 4 e = true)
  {fuel : Nat} {v : Value} {x : DataW H × List MemPlace} (h : DataW.trod enc P w base spare held fuel t [v] = some x) :
  ∃ a l cap, v = .slice a (List.length (α := α) l) cap ∧ l.length ≤ cap ∧ cap ≤ maxLen ∧ SlX w a (l.flatMap c) ∧ (a = none → cap = 0) ∧ ∀ y ∈ l, ∃ f, y = mk f ∧ ∀ j, j < n → -9223372036854775808 ≤ f j ∧ f j ≤ 9223372036854775807 := by
 rcases Go.Deep.open_slice hu h with ⟨h1, _⟩ | ⟨a, len, cap, m, k, D, Pl, hcs, hb, hl, hm, hmm, hx, hi⟩
 ·simp only [List.cons.injEq, and_true] at h1
  subst h1
  exact ⟨none, [], 0, rfl, by simp, by simp [maxLen], fun h => absurd rfl h, fun _ => rfl, by simp⟩
 ·simp only [List.cons.injEq, and_true] at hcs
  subst hcs
  have hlm : len ≤ m := by rw [hmm]; split <;> omega
  let F : Nat → Nat → Int := fun i j => rdI w ((a.add (i * n)).add j)
  let L := (List.range len).map fun i => mk (F i)
  have hL : L.length = len := by simp [L]
  have hcell : ∀ i, i < len → ∀ j, j < n → w.cell? ((a.add (i * n)).add j) = some (.int .i64 (F i j)) ∧ -9223372036854775808 ≤ F i j ∧ F i j ≤ 9223372036854775807 := by
   intro i hil j hj
   obtain ⟨cs', hc', ht'⟩ := hi i (by omega)
   rw [hce] at hc'
   obtain ⟨_, hcl, hat⟩ := World.cells?_some hc'
   obtain ⟨z, hz, hw⟩ := ints_of 4 _ _ _ _ hi0 ht' (cs'[j]'(by omega)) (List.getElem_mem _)
   have hce' : w.cell? ((a.add (i * n)).add j) = some (.int .i64 z) := by rw [hat j hj, List.getElem?_eq_getElem (by omega), hz]
   have : F i j = z := by simp only [F, rdI, hce']
   rw [this]
   exact ⟨hce', wf_bd hw⟩
  refine ⟨some a, L, cap, by rw [hL], by omega, hm, fun hne => ?_, (fun h => by cases h), fun y hy => ?_⟩
  ·have hpos : 0 < len := by
    rcases Nat.eq_zero_or_pos len with h0 | h0
    ·have : L = [] := List.eq_nil_of_length_eq_zero (by rw [hL]; exact h0)
     rw [this] at hne
     exact absurd rfl hne
    ·exact h0
   have hz0 := (hcell 0 hpos 0 hn).1
   have hs : a.spot = none := by
    have := spot_none hz0
    simpa [Addr.add] using this
   obtain ⟨b, off, sp⟩ := a
   simp only at hs
   subst hs
   refine ⟨b, off, rfl, World.block_lt_of_cell? w _ (by simpa [Addr.add] using hz0), fun j hj => ?_⟩
   rw [flat_len c n hc, hL] at hj
   have hjn : j % n < n := Nat.mod_lt _ hn
   have hjd : j / n < len := Nat.div_lt_of_lt_mul (by rw [Nat.mul_comm]; exact hj)
   have e0 : j / n * n + j % n = j := by rw [Nat.mul_comm]; exact Nat.div_add_mod j n
   have g := (hcell (j / n) hjd (j % n) hjn).1
   have e1 : ((⟨b, off, none⟩ : Addr).add (j / n * n)).add (j % n) = ⟨b, off + j, none⟩ := by
    unfold Addr.add
    by_cases h1 : j / n * n = 0 <;> by_cases h2 : j % n = 0 <;> simp [h1, h2] <;> omega
   rw [e1] at g
   rw [g]
   have := flat_get c n hc (mk (F 0)) L (j / n) (j % n) hjn (by rw [hL]; exact hjd)
   rw [e0] at this
   rw [this, show L.getD (j / n) (mk (F 0)) = mk (F (j / n)) by simp [L, List.getD_eq_getElem?_getD, hjd], hmk _ _ hjn]
  ·obtain ⟨i, hi1, rfl⟩ := List.mem_map.1 hy
   exact ⟨_, rfl, fun j hj => (hcell i (List.mem_range.1 hi1) j hj).2⟩
end
def plX (a : Option Addr) (cs : List Value) : Option Pl := if cs = [] then none else a.map fun x => ⟨x.block, x.off, 0, 0⟩
def blX (cs : List Value) : Option Blk := if cs = [] then none else some ⟨cs, false, 0⟩
def vaX (i n : Nat) (z : Bool) : Value := if n = 0 then (if z then .slice none 0 0 else lostV) else .slice (some ⟨i, 0, none⟩) n INF
theorem vaX_rel {w : World} {ρ : Ren} {i n : Nat} {a : Option Addr} {cs : List Value} {cap : Nat} (hS : SlX w a cs) (hn : cs = [] ↔ n = 0) (hc : n ≤ cap) (hz : a = none → cap = 0) (hρ : ρ i = plX a cs) : VRel ρ (vaX i n a.isNone) (.slice a n cap) := by
 unfold vaX
 by_cases hl : n = 0
 ·rw [if_pos hl]
  subst hl
  cases a with
  | none => rw [hz rfl]; exact .scal rfl
  | some a => exact .lost
 ·rw [if_neg hl]
  have hne : cs ≠ [] := fun h => hl (hn.1 h)
  obtain ⟨b, off, rfl, hb, hm⟩ := hS hne
  unfold plX at hρ
  rw [if_neg hne] at hρ
  have := VRel.slice (ρ := ρ) (b := i) (o := 0) (n := n) (c := INF) (c' := cap) hρ hc (fun h => absurd h (by decide)) (fun h => absurd rfl h)
  simpa using this
theorem blX_rel {w : World} {ρ : Ren} {i : Nat} {a : Option Addr} {cs : List Value} (hs : cs.all scal = true) (hS : SlX w a cs) (hρ : ρ i = plX a cs) {blk : Blk} (hb : blX cs = some blk) : ∃ pl, ρ i = some pl ∧ BRel ρ blk pl w := by
 unfold blX at hb
 split at hb
 ·cases hb
 ·rename_i hl
  cases hb
  obtain ⟨b, off, rfl, hbw, hcell⟩ := hS hl
  unfold plX at hρ
  rw [if_neg hl] at hρ
  have hp : 0 < cs.length := List.length_pos_iff.2 hl
  have h0 := hcell 0 hp
  simp only [World.cell?] at h0
  refine ⟨_, hρ, ?_⟩
  cases ho : w.heap[b]? with
  | none => rw [ho] at h0; simp [List.getElem?_eq_getElem hp] at h0
  | some o =>
   cases o with
   | cells c ty fr =>
    refine ⟨_, c, ty, fr, ho, rfl, rfl, fun i v hv => ?_, fun h => by cases h⟩
    have hi := (List.getElem?_eq_some_iff.1 hv).1
    have := hcell i hi
    simp only [World.cell?, ho] at this
    rw [hv] at this
    exact ⟨v, by simpa [Nat.add_comm] using this, .scal (List.all_eq_true.1 hs v (List.mem_of_getElem? hv))⟩
   | _ => rw [ho] at h0; simp [List.getElem?_eq_getElem hp] at h0
theorem blX_ro (cs : List Value) (b : Blk) (h : blX cs = some b) : b.own = false := by
 unfold blX at h
 split at h
 ·cases h
 ·cases h; rfl
end Go.Ls
end
