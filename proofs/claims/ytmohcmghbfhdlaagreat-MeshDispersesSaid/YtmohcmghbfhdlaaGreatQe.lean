/- Chapter 6 in plain Lean: the whole hull: both chains, one behind the other. -/
import Derived.Test.YtmohcmghbfhdlaaGreatQd
import Derived.ProofKit
import Derived.OpenShut
import Derived.Deep.Slices
import Derived.Test.YtmohcmghbfhdlaaGreatQc
import Derived.Test.YtmohcmghbfhdlaaGreatProg
section
set_option linter.unusedSimpArgs false
set_option linter.unusedVariables false
namespace Go.Me
def Steps (L : List Pn) (l : List Pn) : Prop := ∀ (i : Nat) (a b : Pn), l[i]? = some a → l[i + 1]? = some b → Nx L a b
theorem chain_steps {A C : Int} {L ps : List Pn} (hL : ∀ x, x ∈ ps ↔ x ∈ L) (hp : ps.Pairwise fun a b => ph A C a < ph A C b) (hinj : ∀ k ∈ L, ∀ q ∈ L, ph A C k = ph A C q → k = q) (hfl : ∃ p ∈ L, ∃ q ∈ L, ∃ r ∈ L, cr p q r ≠ 0) :
  Steps L (chain ps).reverse := by
 have hc := chained ps hp
 intro i a b ha hb
 have hst : ∀ x ∈ chain ps, x ∈ L := fun x hx => (hL x).1 (hc.sub x hx)
 have hlen : i + 1 < (chain ps).length := by
  have := (List.getElem?_eq_some_iff.1 hb).1
  simpa using this
 rw [List.getElem?_reverse (by omega)] at ha hb
 have hne : ∃ c, (chain ps).head? = some c := by
  cases h : chain ps with
  | nil => rw [h] at hlen; simp at hlen
  | cons c r => exact ⟨c, rfl⟩
 obtain ⟨c, hcc⟩ := hne
 have hmax : ∀ q ∈ L, ph A C q ≤ ph A C c := fun q hq => by
  have hq' := (hL q).2 hq
  have hlast : ps.getLast? = some c := by rw [← hc.top]; exact hcc
  obtain ⟨ini, hini⟩ := List.getLast?_eq_some_iff.1 hlast
  rw [hini] at hq' hp
  rcases List.mem_append.1 hq' with h | h
  ·exact Int.le_of_lt ((List.pairwise_append.1 hp).2.2 q h c (by simp))
  ·have : q = c := by simpa using h
   rw [this]
   exact Int.le_refl _
 refine chain_nx (A := A) (C := C) hinj hfl (chain ps) (Good.mono (fun q hq => (hL q).2 hq) _ hc.good) hst c hcc (.inl hmax) ((chain ps).length - 1 - (i + 1)) a b ?_ hb
 rw [show (chain ps).length - 1 - (i + 1) + 1 = (chain ps).length - 1 - i by omega]
 exact ha
theorem ph_neg (A C : Int) (p : Pn) : ph (-A) (-C) p = -ph A C p := by unfold ph; grind
def corners (ps : List Pn) : List Pn := (chain ps).reverse.dropLast ++ (chain ps.reverse).reverse.dropLast
theorem steps_join {L l k : List Pn} {x : Pn} (h1 : Steps L l) (h2 : Steps L k) (hl : l.getLast? = some x) (hk : k.head? = some x) : Steps L (l.dropLast ++ k) := by
 obtain ⟨ini, rfl⟩ := List.getLast?_eq_some_iff.1 hl
 obtain ⟨r, rfl⟩ : ∃ r, k = x :: r := by
  cases k with
  | nil => simp at hk
  | cons y r => exact ⟨r, by simpa using hk⟩
 rw [List.dropLast_concat]
 intro i a b ha hb
 by_cases hi : i + 1 < ini.length
 ·refine h1 i a b ?_ ?_
  ·rw [List.getElem?_append_left (by omega)] at ha ⊢; exact ha
  ·rw [List.getElem?_append_left (by omega)] at hb ⊢; exact hb
 ·by_cases hi' : i + 1 = ini.length
  ·refine h1 i a b ?_ ?_
   ·rw [List.getElem?_append_left (by omega)] at ha ⊢; exact ha
   ·rw [List.getElem?_append_right (by omega)] at hb ⊢
    rw [show i + 1 - ini.length = 0 by omega] at hb ⊢
    simpa using hb
  ·refine h2 (i - ini.length) a b ?_ ?_
   ·rw [List.getElem?_append_right (by omega)] at ha; exact ha
   ·rw [List.getElem?_append_right (by omega)] at hb
    rw [show i - ini.length + 1 = i + 1 - ini.length by omega]
    exact hb
theorem chain_ends {A C : Int} {ps : List Pn} (hp : ps.Pairwise fun a b => ph A C a < ph A C b) : (chain ps).reverse.getLast? = ps.getLast? ∧ (chain ps).reverse.head? = ps.head? := by
 have hc := chained ps hp
 refine ⟨by rw [List.getLast?_reverse]; exact hc.top, ?_⟩
 rw [List.head?_reverse]
 cases ps with
 | nil => rfl
 | cons a r =>
  cases h : (chain (a :: r)).getLast? with
  | none =>
   have : chain (a :: r) = [] := List.getLast?_eq_none_iff.1 h
   have ht := hc.top
   rw [this] at ht
   cases List.getLast?_eq_none_iff.1 ht.symm
  | some x =>
   have h1 := hc.low x h a (by simp)
   have h2 := hc.sub x (List.mem_of_getLast? h)
   rcases List.mem_cons.1 h2 with e | h2
   ·rw [e]; rfl
   ·have := (List.pairwise_cons.1 hp).1 x h2
    omega
theorem corners_steps {A C : Int} {ps : List Pn} (hp : ps.Pairwise fun a b => ph A C a < ph A C b) (hinj : ∀ k ∈ ps, ∀ q ∈ ps, ph A C k = ph A C q → k = q) (hfl : ∃ p ∈ ps, ∃ q ∈ ps, ∃ r ∈ ps, cr p q r ≠ 0) :
  ∃ x, ps.head? = some x ∧ Steps ps (corners ps ++ [x]) ∧ (corners ps).head? = some x := by
 have hpr : ps.reverse.Pairwise fun a b => ph (-A) (-C) a < ph (-A) (-C) b := by
  rw [List.pairwise_reverse]
  exact hp.imp fun h => by rw [ph_neg, ph_neg]; omega
 have s1 := chain_steps (L := ps) (fun x => Iff.rfl) hp hinj hfl
 have s2 := chain_steps (A := -A) (C := -C) (L := ps) (ps := ps.reverse) (fun x => List.mem_reverse) hpr (fun k hk q hq h => hinj k hk q hq (by rw [ph_neg, ph_neg] at h; omega)) hfl
 obtain ⟨e1, e2⟩ := chain_ends hp
 obtain ⟨e3, e4⟩ := chain_ends hpr
 cases ps with
 | nil => obtain ⟨p, hp', _⟩ := hfl; simp at hp'
 | cons a r =>
  refine ⟨a, rfl, ?_, ?_⟩
  ·obtain ⟨z, hz⟩ : ∃ z, (a :: r).getLast? = some z := by
    cases h : (a :: r).getLast? with
    | none => simp at h
    | some z => exact ⟨z, rfl⟩
   have hj := steps_join s1 s2 (x := z) (by rw [e1]; exact hz) (by rw [e4, List.head?_reverse]; exact hz)
   have hl : (chain (a :: r).reverse).reverse.getLast? = some a := by rw [e3, List.getLast?_reverse]; rfl
   obtain ⟨ini, hini⟩ := List.getLast?_eq_some_iff.1 hl
   unfold corners
   rw [hini, List.dropLast_concat, List.append_assoc, ← hini]
   exact hj
  ·-- there are two points at least, so the first chain is not cut away
   have hz : (chain (a :: r)).reverse.head? = some a := by rw [e2]; rfl
   obtain ⟨k, hk⟩ : ∃ k, (chain (a :: r)).reverse = a :: k := by
    cases h : (chain (a :: r)).reverse with
    | nil => rw [h] at hz; simp at hz
    | cons y k => rw [h] at hz; exact ⟨k, by simpa using hz⟩
   cases k with
   | cons b k' => unfold corners; rw [hk]; rfl
   | nil =>
    rw [hk] at e1
    have hla : (a :: r).getLast? = some a := by rw [← e1]; rfl
    obtain ⟨ini, hini⟩ := List.getLast?_eq_some_iff.1 hla
    cases ini with
    | nil =>
     have : r = [] := by simpa using hini
     subst this
     obtain ⟨p, h1, q, h2, t, h3, h4⟩ := hfl
     simp at h1 h2 h3
     subst h1 h2 h3
     exact absurd (cr_self _ _) h4
    | cons y ini' =>
     have e : y = a ∧ r = ini' ++ [a] := by
      have := hini
      simp at this
      exact ⟨this.1.symm, this.2⟩
     have := (List.pairwise_cons.1 hp).1 a (by rw [e.2]; simp)
     omega
end Go.Me
end
/- Chapter 6 in plain Lean: the corners are different ones, three at least; on a line there are two at most. -/
section
set_option linter.unusedSimpArgs false
set_option linter.unusedVariables false
namespace Go.Me
theorem Good.sorted {A C : Int} {s : List Pn} : ∀ st : List Pn, Good A C s st → st.Pairwise fun a b => ph A C b < ph A C a
 | [], _ => .nil
 | [c], _ => List.pairwise_singleton _ _
 | c :: b :: r, hg => by
  have ih := Good.sorted (b :: r) hg.2.2.2
  refine List.pairwise_cons.2 ⟨fun q hq => ?_, ih⟩
  rcases List.mem_cons.1 hq with rfl | hq
  ·exact hg.1
  ·have := (List.pairwise_cons.1 ih).1 q hq
   have := hg.1
   omega
theorem corners_ne {A C : Int} {ps : List Pn} {x : Pn} (hp : ps.Pairwise fun a b => ph A C a < ph A C b) (hx : ps.head? = some x) (hc : (corners ps).head? = some x) : ∀ (i : Nat) (y : Pn), (corners ps)[i]? = some y → 1 ≤ i → y ≠ x := by
 have hpr : ps.reverse.Pairwise fun a b => ph (-A) (-C) a < ph (-A) (-C) b := by
  rw [List.pairwise_reverse]
  exact hp.imp fun h => by rw [ph_neg, ph_neg]; omega
 obtain ⟨e1, e2⟩ := chain_ends hp
 obtain ⟨e3, e4⟩ := chain_ends hpr
 have p1 : (chain ps).reverse.Pairwise fun a b => ph A C a < ph A C b := List.pairwise_reverse.2 ((chained ps hp).good.sorted _)
 have p2 : (chain ps.reverse).reverse.Pairwise fun a b => ph A C b < ph A C a := by
  refine List.pairwise_reverse.2 (((chained _ hpr).good.sorted _).imp fun h => ?_)
  rw [ph_neg, ph_neg] at h
  omega
 have q2 : ∀ y ∈ (chain ps.reverse).reverse.dropLast, ph A C x < ph A C y := by
  intro y hy
  have hl : (chain ps.reverse).reverse.getLast? = some x := by rw [e3, List.getLast?_reverse]; exact hx
  obtain ⟨ini, hini⟩ := List.getLast?_eq_some_iff.1 hl
  rw [hini] at hy p2
  rw [List.dropLast_concat] at hy
  exact (List.pairwise_append.1 p2).2.2 y hy x (by simp)
 intro i y hy hi e
 subst e
 unfold corners at hy hc
 generalize hlo : (chain ps).reverse.dropLast = lo at hy hc
 by_cases hlt : i < lo.length
 ·rw [List.getElem?_append_left hlt] at hy
  cases lo with
  | nil => simp at hlt
  | cons a r =>
   have ha : a = y := by simpa using hc
   subst ha
   obtain ⟨j, rfl⟩ : ∃ j, i = j + 1 := ⟨i - 1, by omega⟩
   have hyr : a ∈ r := List.mem_of_getElem? (by simpa using hy)
   have hsub : (a :: r).Pairwise fun a b => ph A C a < ph A C b := by
    rw [← hlo]
    exact p1.sublist (List.dropLast_sublist _)
   have := (List.pairwise_cons.1 hsub).1 a hyr
   omega
 ·rw [List.getElem?_append_right (by omega)] at hy
  have := q2 y (List.mem_of_getElem? hy)
  omega
theorem corners_nodup {ps : List Pn} {x : Pn} (hst : Steps ps (corners ps ++ [x])) (hne : ∀ (i : Nat) (y : Pn), (corners ps)[i]? = some y → 1 ≤ i → y ≠ x) (hc : (corners ps).head? = some x) :
  ∀ (i j : Nat) (y : Pn), i < j → (corners ps)[i]? = some y → (corners ps)[j]? = some y → False := by
 generalize corners ps = cs at *
 intro i j y hij hi hj
 have hjl := (List.getElem?_eq_some_iff.1 hj).1
 have key : ∀ t, j + t ≤ cs.length → (cs ++ [x])[i + t]? = (cs ++ [x])[j + t]? := by
  intro t
  induction t with
  | zero =>
   intro _
   rw [Nat.add_zero, Nat.add_zero, List.getElem?_append_left (by omega), List.getElem?_append_left (by omega), hi, hj]
  | succ t ih =>
   intro ht
   have h := ih (by omega)
   have h1 : i + t + 1 < (cs ++ [x]).length := by simp; omega
   have h2 : j + t + 1 < (cs ++ [x]).length := by simp; omega
   have n1 := hst (i + t) _ _ (List.getElem?_eq_getElem (by omega)) (List.getElem?_eq_getElem h1)
   have n2 := hst (j + t) _ _ (List.getElem?_eq_getElem (by omega)) (List.getElem?_eq_getElem h2)
   have e : (cs ++ [x])[i + t] = (cs ++ [x])[j + t] := by
    rw [List.getElem?_eq_getElem (by omega), List.getElem?_eq_getElem (by omega)] at h
    exact Option.some.inj h
   rw [e] at n1
   have := n1.uniq n2
   rw [← Nat.add_assoc, ← Nat.add_assoc, List.getElem?_eq_getElem h1, List.getElem?_eq_getElem h2, this]
 have h := key (cs.length - j) (by omega)
 rw [show j + (cs.length - j) = cs.length by omega, List.getElem?_append_left (by omega)] at h
 have hx : (cs ++ [x])[cs.length]? = some x := by simp
 rw [hx] at h
 exact hne _ x h (by omega) rfl
theorem le_of_nodup : ∀ (l ps : List Pn), l.Nodup → (∀ y ∈ l, y ∈ ps) → l.length ≤ ps.length
 | [], ps, _, _ => by simp
 | a :: l, ps, hn, hs => by
  have ha := hs a (by simp)
  have ih := le_of_nodup l (ps.erase a) (List.nodup_cons.1 hn).2 (fun y hy => by
   have hya : y ≠ a := fun e => (List.nodup_cons.1 hn).1 (e ▸ hy)
   exact (List.mem_erase_of_ne hya).2 (hs y (by simp [hy])))
  rw [List.length_erase_of_mem ha] at ih
  have := List.length_pos_of_mem ha
  simp
  omega
theorem corners_three {ps : List Pn} {x : Pn} (hst : Steps ps (corners ps ++ [x])) (hc : (corners ps).head? = some x) (hxm : x ∈ ps) (hfl : ∃ p ∈ ps, ∃ q ∈ ps, ∃ r ∈ ps, cr p q r ≠ 0) : 3 ≤ (corners ps).length := by
 match hcs : corners ps, hst, hc with
 | [], _, hc => simp at hc
 | [a], hst, hc =>
  have ha : a = x := by simpa using hc
  exact absurd ha.symm (hst 0 a x rfl rfl).ne
 | [a, b], hst, hc =>
  have ha : a = x := by simpa using hc
  subst ha
  have n1 := hst 0 a b rfl rfl
  have n2 := hst 1 b a rfl rfl
  obtain ⟨p, hp, q, hq, r, hr, h⟩ := hfl
  have hz : ∀ k ∈ ps, cr a b k = 0 := fun k hk => by
   have h1 := n1.bord k hk
   have h2 := n2.bord k hk
   have : cr b a k = -cr a b k := by unfold cr; grind
   omega
  exact absurd (flat_of (Ne.symm n1.ne) (hz p hp) (hz q hq) (hz r hr)) h
 | _ :: _ :: _ :: _, _, _ => simp
end Go.Me
end
/- Chapter 6 in plain Lean: hulls by the numbers of points: the program's, and the reference's way around. -/
section
set_option linter.unusedSimpArgs false
set_option linter.unusedVariables false
namespace Go.Me
def pt (l : List Pn) (i : Nat) : Pn := l.getD i ⟨0, 0⟩
theorem pt_mem {l : List Pn} {i : Nat} (h : i < l.length) : pt l i ∈ l := by
 unfold pt
 rw [List.getD_eq_getElem?_getD, List.getElem?_eq_getElem h]
 exact List.getElem_mem h
theorem mem_pt {l : List Pn} {p : Pn} (h : p ∈ l) : ∃ i, i < l.length ∧ pt l i = p := by
 obtain ⟨i, hi, e⟩ := List.mem_iff_getElem.1 h
 refine ⟨i, hi, ?_⟩
 unfold pt
 rw [List.getD_eq_getElem?_getD, List.getElem?_eq_getElem hi]
 exact e
def Apart (l : List Pn) : Prop := ∀ i j, i < l.length → j < l.length → pt l i = pt l j → i = j
def popI (l : List Pn) (p : Nat) : List Nat → List Nat
 | b :: a :: r => if cr (pt l a) (pt l b) (pt l p) ≤ 0 then popI l p (a :: r) else b :: a :: r
 | s => s
def chainI (l : List Pn) (ps : List Nat) : List Nat := ps.foldl (fun st p => p :: popI l p st) []
theorem popI_map (l : List Pn) (p : Nat) : ∀ st : List Nat, (popI l p st).map (pt l) = pop (pt l p) (st.map (pt l))
 | [] => rfl
 | [_] => rfl
 | b :: a :: r => by
  unfold popI
  show _ = pop (pt l p) (pt l b :: pt l a :: r.map (pt l))
  unfold pop
  by_cases h : cr (pt l a) (pt l b) (pt l p) ≤ 0
  ·rw [if_pos h, if_pos h]
   exact popI_map l p (a :: r)
  ·rw [if_neg h, if_neg h]
   rfl
theorem chainI_map (l : List Pn) (ps : List Nat) : (chainI l ps).map (pt l) = chain (ps.map (pt l)) := by
 unfold chainI chain
 rw [List.foldl_map]
 have key : ∀ (ps : List Nat) (st : List Nat), (ps.foldl (fun st p => p :: popI l p st) st).map (pt l) = ps.foldl (fun st p => pt l p :: pop (pt l p) st) (st.map (pt l)) := by
  intro ps
  induction ps with
  | nil => intro st; rfl
  | cons p ps ih =>
   intro st
   rw [List.foldl_cons, List.foldl_cons, ih, List.map_cons, popI_map]
 exact key ps []
def hullI (l : List Pn) (ord : List Nat) : List Nat := (chainI l ord).reverse.dropLast ++ (chainI l ord.reverse).reverse.dropLast
theorem hullI_map (l : List Pn) (ord : List Nat) : (hullI l ord).map (pt l) = corners (ord.map (pt l)) := by
 unfold hullI corners
 rw [List.map_append, List.map_dropLast, List.map_dropLast, List.map_reverse, List.map_reverse, chainI_map, chainI_map, List.map_reverse]
theorem popI_sub (l : List Pn) (p : Nat) : ∀ (st : List Nat) (x : Nat), x ∈ popI l p st → x ∈ st
 | [], x, h => h
 | [_], x, h => h
 | b :: a :: r, x, h => by
  unfold popI at h
  split at h
  ·exact List.mem_cons_of_mem _ (popI_sub l p (a :: r) x h)
  ·exact h
theorem chainI_sub (l : List Pn) (ps : List Nat) : ∀ x ∈ chainI l ps, x ∈ ps := by
 unfold chainI
 have key : ∀ (ps st : List Nat) (x : Nat), x ∈ ps.foldl (fun st p => p :: popI l p st) st → x ∈ ps ∨ x ∈ st := by
  intro ps
  induction ps with
  | nil => intro st x h; exact .inr h
  | cons p ps ih =>
   intro st x h
   rw [List.foldl_cons] at h
   rcases ih _ x h with h | h
   ·exact .inl (by simp [h])
   ·rcases List.mem_cons.1 h with rfl | h
    ·exact .inl (by simp)
    ·exact .inr (popI_sub l p st x h)
 intro x hx
 rcases key ps [] x hx with h | h
 ·exact h
 ·simp at h
theorem hullI_sub (l : List Pn) (ord : List Nat) : ∀ x ∈ hullI l ord, x ∈ ord := by
 intro x hx
 rcases List.mem_append.1 hx with h | h
 ·exact chainI_sub l ord x (by simpa using (List.dropLast_sublist _).subset h)
 ·simpa using chainI_sub l ord.reverse x (by simpa using (List.dropLast_sublist _).subset h)
def Cand (l : List Pn) (at_ k : Nat) : Prop := k ≠ at_ ∧ Bord l (pt l at_) (pt l k)
open Classical in
noncomputable def nextStep (l : List Pn) (at_ : Nat) (best : Option Nat) (k : Nat) : Option Nat :=
 if Cand l at_ k ∧ (∀ j, best = some j → OnSeg (pt l j) (pt l at_) (pt l k)) then some k else best
noncomputable def nextTo (l : List Pn) (at_ : Nat) : Nat → Option Nat
 | 0 => none
 | k + 1 => nextStep l at_ (nextTo l at_ k) k
theorem nextTo_cand {l : List Pn} {at_ : Nat} : ∀ (k j : Nat), nextTo l at_ k = some j → j < k ∧ Cand l at_ j
 | 0, j, h => by cases h
 | k + 1, j, h => by
  unfold nextTo nextStep at h
  split at h
  ·rename_i hc
   cases h
   exact ⟨by omega, hc.1⟩
  ·have := nextTo_cand k j h
   exact ⟨by omega, this.2⟩
theorem nextTo_eq {l : List Pn} (hap : Apart l) {a b : Nat} (ha : a < l.length) (hb : b < l.length) (h : Nx l (pt l a) (pt l b)) : nextTo l a l.length = some b := by
 have hcb : Cand l a b := ⟨fun e => h.ne (by rw [e]), h.bord⟩
 have hfar : ∀ k, k < l.length → Cand l a k → OnSeg (pt l k) (pt l a) (pt l b) := fun k hk hc => h.far _ (pt_mem hk) (fun e => hc.1 (hap k a hk ha e)) hc.2
 have key : ∀ K, K ≤ l.length → b < K → nextTo l a K = some b := by
  intro K
  induction K with
  | zero => intro _ h; omega
  | succ K ih =>
   intro hK hbK
   unfold nextTo nextStep
   by_cases hKb : K = b
   ·subst hKb
    rw [if_pos]
    refine ⟨hcb, fun j hj => ?_⟩
    have := nextTo_cand K j hj
    exact hfar j (by omega) this.2
   ·rw [ih (by omega) (by omega), if_neg]
    rintro ⟨h1, h2⟩
    have := (hfar K (by omega) h1).anti (h2 b rfl)
    exact hKb (hap K b (by omega) hb this)
 exact key l.length (Nat.le_refl _) hb
def lexLt (p q : Pn) : Prop := p.x < q.x ∨ (p.x = q.x ∧ p.y < q.y)
theorem lex_ph {B : Int} {p q : Pn} (hp : -B ≤ p.y ∧ p.y ≤ B) (hq : -B ≤ q.y ∧ q.y ≤ B) (h : lexLt p q) : ph (2 * B + 1) 1 p < ph (2 * B + 1) 1 q := by
 unfold ph
 rcases h with h | ⟨h1, h2⟩
 ·have : (2 * B + 1) * p.x + (2 * B + 1) ≤ (2 * B + 1) * q.x := by
   have := Int.mul_le_mul_of_nonneg_left (show p.x + 1 ≤ q.x by omega) (show 0 ≤ 2 * B + 1 by omega)
   rw [Int.mul_add, Int.mul_one] at this
   exact this
  omega
 ·rw [h1]
  omega
structure Sorted (l : List Pn) (ord : List Nat) : Prop where
 mem : ∀ i, i ∈ ord ↔ i < l.length
 lex : ord.Pairwise fun i j => lexLt (pt l i) (pt l j)
theorem hull_ok {l : List Pn} {ord : List Nat} {B : Int} (hB : ∀ p ∈ l, -B ≤ p.y ∧ p.y ≤ B) (hap : Apart l) (hs : Sorted l ord) (hfl : ∃ p ∈ l, ∃ q ∈ l, ∃ r ∈ l, cr p q r ≠ 0) :
  3 ≤ (hullI l ord).length ∧ (hullI l ord).length ≤ l.length ∧ (hullI l ord).head? = ord.head? ∧ (∀ (i a b : Nat), (hullI l ord)[i]? = some a → (hullI l ord)[i + 1]? = some b → nextTo l a l.length = some b) ∧
  (∀ a f, (hullI l ord).getLast? = some a → ord.head? = some f → nextTo l a l.length = some f) ∧ (∀ (i a f : Nat), 1 ≤ i → (hullI l ord)[i]? = some a → ord.head? = some f → a ≠ f) := by
 have hpm : ∀ p, p ∈ ord.map (pt l) ↔ p ∈ l := fun p => by
  constructor
  ·intro h
   obtain ⟨i, hi, rfl⟩ := List.mem_map.1 h
   exact pt_mem ((hs.mem i).1 hi)
  ·intro h
   obtain ⟨i, hi, rfl⟩ := mem_pt h
   exact List.mem_map.2 ⟨i, (hs.mem i).2 hi, rfl⟩
 have hp : (ord.map (pt l)).Pairwise fun a b => ph (2 * B + 1) 1 a < ph (2 * B + 1) 1 b := by
  rw [List.pairwise_map]
  refine hs.lex.imp_of_mem fun {i j} hi hj h => ?_
  exact lex_ph (hB _ (pt_mem ((hs.mem i).1 hi))) (hB _ (pt_mem ((hs.mem j).1 hj))) h
 have hinj : ∀ k ∈ ord.map (pt l), ∀ q ∈ ord.map (pt l), ph (2 * B + 1) 1 k = ph (2 * B + 1) 1 q → k = q := by
  intro k hk q hq e
  have key : ∀ L : List Pn, (L.Pairwise fun a b => ph (2 * B + 1) 1 a < ph (2 * B + 1) 1 b) → k ∈ L → q ∈ L → k = q := by
   intro L
   induction L with
   | nil => intro _ h; simp at h
   | cons a L ih =>
    intro hpw h1 h2
    rw [List.pairwise_cons] at hpw
    rcases List.mem_cons.1 h1 with e1 | k1
    ·rcases List.mem_cons.1 h2 with e2 | k2
     ·rw [e1, e2]
     ·have := hpw.1 q k2; rw [← e1] at this; omega
    ·rcases List.mem_cons.1 h2 with e2 | k2
     ·have := hpw.1 k k1; rw [← e2] at this; omega
     ·exact ih hpw.2 k1 k2
  exact key _ hp hk hq
 have hfl' : ∃ p ∈ ord.map (pt l), ∃ q ∈ ord.map (pt l), ∃ r ∈ ord.map (pt l), cr p q r ≠ 0 := by
  obtain ⟨p, h1, q, h2, r, h3, h4⟩ := hfl
  exact ⟨p, (hpm p).2 h1, q, (hpm q).2 h2, r, (hpm r).2 h3, h4⟩
 obtain ⟨x, hx, hst, hhd⟩ := corners_steps hp hinj hfl'
 have hne := corners_ne hp hx hhd
 have hnd := corners_nodup hst hne hhd
 have hthree := corners_three hst hhd (List.mem_of_head? hx) hfl'
 rw [← hullI_map] at hst hhd hne hnd hthree
 have hsub := fun y (hy : y ∈ hullI l ord) => (hs.mem y).1 (hullI_sub l ord y hy)
 have hNl : ∀ {a b : Pn}, Nx (ord.map (pt l)) a b → Nx l a b := fun h => ⟨(hpm _).1 h.mem, h.ne, fun q hq => h.bord q ((hpm q).2 hq), fun k hk hka hB => h.far k ((hpm k).2 hk) hka fun q hq => hB q ((hpm q).1 hq)⟩
 obtain ⟨f, hf⟩ : ∃ f, ord.head? = some f := by
  cases ord with
  | nil => simp at hx
  | cons f r => exact ⟨f, rfl⟩
 have hfx : pt l f = x := by
  rw [List.head?_map, hf] at hx
  exact Option.some.inj hx
 have hfl2 : f < l.length := (hs.mem f).1 (List.mem_of_head? hf)
 generalize hcs : hullI l ord = cs at *
 rw [List.length_map] at hthree
 refine ⟨hthree, ?_, ?_, fun i a b ha hb => ?_, fun a f' ha hf' => ?_, fun i a f' hi ha hf' e => ?_⟩
 ·have : (cs.map (pt l)).Nodup := by
   rw [List.nodup_iff_pairwise_ne, List.pairwise_iff_getElem]
   intro i j hi hj hij e
   exact hnd i j _ hij (List.getElem?_eq_getElem hi) (by rw [e]; exact List.getElem?_eq_getElem hj)
  have := le_of_nodup _ l this (fun y hy => by
   obtain ⟨i, hi, rfl⟩ := List.mem_map.1 hy
   exact pt_mem (hsub i hi))
  rwa [List.length_map] at this
 ·rw [hf]
  cases cs with
  | nil => simp at hhd
  | cons c r =>
   have : pt l c = x := by simpa using hhd
   have := hap c f (hsub c (by simp)) hfl2 (this.trans hfx.symm)
   rw [this]
   rfl
 ·have hil := (List.getElem?_eq_some_iff.1 hb).1
  refine nextTo_eq hap (hsub a (List.mem_of_getElem? ha)) (hsub b (List.mem_of_getElem? hb)) (hNl (hst i _ _ ?_ ?_))
  ·rw [List.getElem?_append_left (by rw [List.length_map]; omega), List.getElem?_map, ha]; rfl
  ·rw [List.getElem?_append_left (by rw [List.length_map]; omega), List.getElem?_map, hb]; rfl
 ·rw [hf] at hf'
  cases hf'
  obtain ⟨ini, rfl⟩ := List.getLast?_eq_some_iff.1 ha
  refine nextTo_eq hap (hsub a (by simp)) hfl2 (hNl (hst ini.length _ _ ?_ ?_))
  ·rw [List.getElem?_append_left (by simp)]; simp
  ·rw [List.getElem?_append_right (by simp)]; simp [hfx]
 ·rw [hf] at hf'
  cases hf'
  subst e
  exact hne i (pt l a) (by rw [List.getElem?_map, ha]; rfl) hi hfx
def FlatR (l : List Pn) : Prop := ∀ i, 2 ≤ i → i < l.length → cr (pt l 0) (pt l 1) (pt l i) = 0
theorem not_flatR {l : List Pn} (h : ¬ FlatR l) : ∃ p ∈ l, ∃ q ∈ l, ∃ r ∈ l, cr p q r ≠ 0 := by
 apply Classical.byContradiction
 intro hno
 refine h fun i h2 hi => Classical.byContradiction fun hn => hno ⟨_, pt_mem (show 0 < l.length by omega), _, pt_mem (show 1 < l.length by omega), _, pt_mem hi, hn⟩
theorem first_least {l : List Pn} {ord : List Nat} {f : Nat} (hs : Sorted l ord) (hf : ord.head? = some f) : f < l.length ∧ ∀ i, i < l.length → i = f ∨ lexLt (pt l f) (pt l i) := by
 refine ⟨(hs.mem f).1 (List.mem_of_head? hf), fun i hi => ?_⟩
 cases ord with
 | nil => simp at hf
 | cons g r =>
  obtain rfl : g = f := by simpa using hf
  rcases List.mem_cons.1 ((hs.mem i).2 hi) with e | h
  ·exact .inl e
  ·exact .inr ((List.pairwise_cons.1 hs.lex).1 i h)
end Go.Me
end
/- Chapter 6 in plain Lean: the circle through three points, and a fourth one. -/
section
set_option linter.unusedSimpArgs false
set_option linter.unusedVariables false
namespace Go.Me
def sgn (n : Int) : Int := if n < 0 then -1 else if n = 0 then 0 else 1
structure Pn.Ok (p : Pn) : Prop where
 x0 : -10000 ≤ p.x
 x1 : p.x ≤ 10000
 y0 : -10000 ≤ p.y
 y1 : p.y ≤ 10000
theorem mul_bd {m n a b : Int} (h1 : -a ≤ m ∧ m ≤ a) (h2 : -b ≤ n ∧ n ≤ b) (ha : 0 ≤ a) : -(a * b) ≤ m * n ∧ m * n ≤ a * b := by
 have hb : 0 ≤ b := by omega
 rcases Int.le_total 0 m with hm | hm
 ·have q1 : m * n ≤ m * b := Int.mul_le_mul_of_nonneg_left h2.2 hm
  have q2 : m * b ≤ a * b := Int.mul_le_mul_of_nonneg_right h1.2 hb
  have q3 : m * (-b) ≤ m * n := Int.mul_le_mul_of_nonneg_left h2.1 hm
  rw [Int.mul_neg] at q3
  omega
 ·have q1 : m * n ≤ m * (-b) := Int.mul_le_mul_of_nonpos_left hm h2.1
  have q2 : m * b ≤ m * n := Int.mul_le_mul_of_nonpos_left hm h2.2
  have q3 : (-m) * b ≤ a * b := Int.mul_le_mul_of_nonneg_right (by omega) hb
  rw [Int.mul_neg] at q1
  rw [Int.neg_mul] at q3
  omega
end Go.Me
end
/- The small memory: lists in a block, or empty ones of any kind. -/
section
set_option linter.unusedSimpArgs false
set_option linter.unusedVariables false
namespace Go
namespace Ab
open Go.RowKit
abbrev lostV : Value := .slice (some ⟨0, 0, some default⟩) 0 0
end Ab
end Go
end
/- Lists of values of whole numbers: in the small memory, and as arguments. -/
section
set_option linter.unusedSimpArgs false
set_option linter.unusedVariables false
namespace Go.Ls
open Go.ChangeShapes Go.WideShapes Go.ChangeAt Go Go.RowKit Go.Ab
set_option maxRecDepth 100000
theorem flat_len {α : Type} (f : α → List Value) (n : Nat) (h : ∀ x, (f x).length = n) : ∀ l : List α, (l.flatMap f).length = l.length * n
 | [] => by simp
 | x :: l => by rw [List.flatMap_cons, List.length_append, h, flat_len f n h l, List.length_cons, Nat.succ_mul]; omega
theorem flat_get {α : Type} (f : α → List Value) (n : Nat) (h : ∀ x, (f x).length = n) (d : α) : ∀ (l : List α) (k j : Nat), j < n → k < l.length → (l.flatMap f)[k * n + j]? = (f (l.getD k d))[j]?
 | [], k, _, _, hk => by simp at hk
 | x :: l, 0, j, hj, _ => by
  rw [List.flatMap_cons, List.getElem?_append_left (by rw [h]; omega)]; simp
 | x :: l, k + 1, j, hj, hk => by
  rw [List.flatMap_cons, List.getElem?_append_right (by rw [h, Nat.succ_mul]; omega), h, Nat.succ_mul, show k * n + n + j - n = k * n + j by omega, flat_get f n h d l k j hj (by simpa using hk)]
  simp
theorem flat_snoc {α : Type} (f : α → List Value) (l : List α) (x : α) : (l ++ [x]).flatMap f = l.flatMap f ++ f x := by simp
theorem flat_drop {α : Type} (f : α → List Value) (n : Nat) (h : ∀ x, (f x).length = n) (d : α) (l : List α) (k : Nat) (hk : k < l.length) : ((l.flatMap f).drop (k * n)).take n = f (l.getD k d) := by
 refine List.ext_getElem? fun i => ?_
 rw [List.getElem?_take]
 split
 ·rename_i hi
  rw [List.getElem?_drop, flat_get f n h d l k i hi hk]
 ·rename_i hi
  rw [List.getElem?_eq_none (by rw [h]; omega)]
theorem flat_scal {α : Type} (f : α → List Value) (h : ∀ x, (f x).all Ab.scal = true) (l : List α) : (l.flatMap f).all Ab.scal = true := List.all_eq_true.2 fun u hu => by
 obtain ⟨s, _, hs⟩ := List.mem_flatMap.1 hu
 exact List.all_eq_true.1 (h s) u hs
theorem flat_ld {α : Type} {m : Mem} {b : Nat} {blk : Blk} (f : α → List Value) (n : Nat) (h : ∀ x, (f x).length = n) (d : α) (l : List α) (hb : m.at b = some blk) (hc : blk.cells = l.flatMap f) (k : Nat) (hk : k < l.length) : m.ld b (k * n) n = some (f (l.getD k d)) := by
 have h1 := flat_len f n h l
 have h2 : k * n + n ≤ l.length * n := by rw [← Nat.succ_mul]; exact Nat.mul_le_mul_right _ hk
 unfold Mem.ld
 rw [hb]
 show (if k * n + n ≤ blk.cells.length then some ((blk.cells.drop (k * n)).take n) else none) = _
 rw [hc, if_pos (by omega), flat_drop f n h d l k hk]
theorem one_of_scal {cs : List Value} (h : cs.all Ab.scal = true) : cs.all Ab.one = true := List.all_eq_true.2 fun v hv => by
 have := List.all_eq_true.1 h v hv
 cases v <;> first | rfl | (simp [Ab.scal] at this)
section
variable {H : Type} {enc : TypeId × Value → H} {P : Program}
def intsT (P : Program) : Nat → TypeId → Bool
 | 0, _ => false
 | d + 1, t => match P.underlying t with
  | some (.int .i64) => true
  | some (.struct fs) => (fs.all fun f => intsT P d f.type) && (List.range (P.cellsOf t)).all fun i => fs.any fun f => decide (f.offset ≤ i ∧ i < f.offset + P.cellsOf f.type)
  | some (.array n e) => intsT P d e && (P.cellsOf t == n * P.cellsOf e) && decide (0 < P.cellsOf e)
  | _ => false
theorem ints_of {w : World} {base : Nat} {spare : Nat → Bool} {held : Bool} : ∀ (d : Nat) (t : TypeId) (fuel : Nat) (cs : List Value) (x : DataW H × List MemPlace), intsT P d t = true → DataW.trod enc P w base spare held fuel t cs = some x → ∀ v ∈ cs, ∃ n, v = .int .i64 n ∧ (Lit.int .i64 n).wf = true
 | 0, _, _, _, _, h, _ => by simp [intsT] at h
 | d + 1, t, fuel, cs, x, h, ht => by
  unfold intsT at h
  cases hu : P.underlying t with
  | none => rw [hu] at h; cases h
  | some u =>
   rw [hu] at h
   cases u with
   | int k =>
    cases k <;> simp only at h <;> first | (cases h; done) | skip
    obtain ⟨n, rfl, _, hw⟩ := DataW.trod_int hu ht
    intro v hv
    rw [List.mem_singleton] at hv
    exact ⟨n, hv, hw⟩
   | struct fs =>
    simp only [Bool.and_eq_true] at h
    obtain ⟨xs, n, _, _, hlen, hxl, hf⟩ := DataW.trod_struct hu ht
    intro v hv
    obtain ⟨i, hi, rfl⟩ := List.getElem_of_mem hv
    have hc := List.all_eq_true.1 h.2 i (List.mem_range.2 (by rw [← hlen]; exact hi))
    obtain ⟨f, hfm, hfi⟩ := Array.any_eq_true'.1 hc
    simp only [decide_eq_true_eq] at hfi
    obtain ⟨j, hj⟩ := Array.getElem?_of_mem hfm
    have hft := Array.all_eq_true'.1 h.1 f hfm
    have hjl : j < fs.size := (Array.getElem?_eq_some_iff.1 hj).1
    have h1 := hf j f hj
    rw [List.getElem?_eq_getElem (by omega)] at h1
    refine ints_of d f.type n _ _ hft h1 _ ?_
    refine List.mem_iff_getElem?.2 ⟨i - f.offset, ?_⟩
    rw [List.getElem?_take, if_pos (by omega), List.getElem?_drop, show f.offset + (i - f.offset) = i by omega, List.getElem?_eq_getElem hi]
   | array n e =>
    simp only [Bool.and_eq_true, beq_iff_eq, decide_eq_true_eq] at h
    obtain ⟨⟨h1, h2⟩, h3⟩ := h
    cases fuel with
    | zero => simp [DataW.trod] at ht
    | succ m =>
     unfold DataW.trod at ht
     rw [hu] at ht
     simp only at ht
     split at ht
     ·rename_i hlen
      simp only [Option.map_eq_some_iff] at ht
      obtain ⟨xs, hxs, _⟩ := ht
      intro v hv
      obtain ⟨i, hi, rfl⟩ := List.getElem_of_mem hv
      have hin : i / P.cellsOf e < n := by
       rw [hlen, h2] at hi
       exact Nat.div_lt_of_lt_mul (by rw [Nat.mul_comm]; exact hi)
      have hg := mapM_some_get hxs (i / P.cellsOf e) (i / P.cellsOf e) (by simp [hin])
      have hxl := mapM_some_length hxs
      rw [List.getElem?_eq_getElem (by rw [hxl]; simpa using hin)] at hg
      refine ints_of d e m _ _ h1 hg _ ?_
      refine List.mem_iff_getElem?.2 ⟨i % P.cellsOf e, ?_⟩
      have hmd := Nat.div_add_mod i (P.cellsOf e)
      rw [List.getElem?_take, if_pos (Nat.mod_lt _ h3), List.getElem?_drop, show i / P.cellsOf e * P.cellsOf e + i % P.cellsOf e = i by rw [Nat.mul_comm]; exact hmd, List.getElem?_eq_getElem hi]
     ·cases ht
   | _ => simp at h
end
theorem wf_bd {n : Int} (h : (Lit.int .i64 n).wf = true) : -9223372036854775808 ≤ n ∧ n ≤ 9223372036854775807 := by
 exact bounds_i64 h
def SlX (w : World) (a : Option Addr) (cs : List Value) : Prop := cs ≠ [] → ∃ b off, a = some ⟨b, off, none⟩ ∧ b < w.heap.size ∧ ∀ j, j < cs.length → w.cell? ⟨b, off + j, none⟩ = cs[j]?
theorem spot_none {w : World} {a : Addr} {v : Value} (h : w.cell? a = some v) : a.spot = none := by
 unfold World.cell? at h
 split at h
 ·split at h
  ·cases h
  ·rename_i hs; simpa using hs
 ·cases h
def rdI (w : World) (a : Addr) : Int := match w.cell? a with | some (.int .i64 n) => n | _ => 0
section
variable {H : Type} {enc : TypeId × Value → H} {P : Program} {w : World} {base : Nat} {spare : Nat → Bool} {held : Bool}
theorem open_ints {α : Type} {t e : TypeId} {n : Nat} (c : α → List Value) (hc : ∀ x, (c x).length = n) (mk : (Nat → Int) → α) (hmk : ∀ f j, j < n → (c (mk f))[j]? = some (.int .i64 (f j))) (hu : P.underlying t = some (.slice e)) (hce : P.cellsOf e = n) (hn : 0 < n) (hi0 : intsT P 4 e = true)
  {fuel : Nat} {v : Value} {x : DataW H × List MemPlace} (h : DataW.trod enc P w base spare held fuel t [v] = some x) :
  ∃ a l cap, v = .slice a (List.length (α := α) l) cap ∧ l.length ≤ cap ∧ cap ≤ maxLen ∧ SlX w a (l.flatMap c) ∧ (a = none → cap = 0) ∧ ∀ y ∈ l, ∃ f, y = mk f ∧ ∀ j, j < n → -9223372036854775808 ≤ f j ∧ f j ≤ 9223372036854775807 := by
 rcases Go.Deep.open_slice hu h with ⟨h1, _⟩ | ⟨a, len, cap, m, k, D, Pl, hcs, hb, hl, hm, hmm, hx, hi⟩
 ·simp only [List.cons.injEq, and_true] at h1
  subst h1
  exact ⟨none, [], 0, rfl, by simp, by simp [maxLen], fun h => absurd rfl h, fun _ => rfl, by simp⟩
 ·simp only [List.cons.injEq, and_true] at hcs
  subst hcs
  have hlm : len ≤ m := by rw [hmm]; split <;> omega
  let F : Nat → Nat → Int := fun i j => rdI w ((a.add (i * n)).add j)
  let L := (List.range len).map fun i => mk (F i)
  have hL : L.length = len := by simp [L]
  have hcell : ∀ i, i < len → ∀ j, j < n → w.cell? ((a.add (i * n)).add j) = some (.int .i64 (F i j)) ∧ -9223372036854775808 ≤ F i j ∧ F i j ≤ 9223372036854775807 := by
   intro i hil j hj
   obtain ⟨cs', hc', ht'⟩ := hi i (by omega)
   rw [hce] at hc'
   obtain ⟨_, hcl, hat⟩ := World.cells?_some hc'
   obtain ⟨z, hz, hw⟩ := ints_of 4 _ _ _ _ hi0 ht' (cs'[j]'(by omega)) (List.getElem_mem _)
   have hce' : w.cell? ((a.add (i * n)).add j) = some (.int .i64 z) := by rw [hat j hj, List.getElem?_eq_getElem (by omega), hz]
   have : F i j = z := by simp only [F, rdI, hce']
   rw [this]
   exact ⟨hce', wf_bd hw⟩
  refine ⟨some a, L, cap, by rw [hL], by omega, hm, fun hne => ?_, (fun h => by cases h), fun y hy => ?_⟩
  ·have hpos : 0 < len := by
    rcases Nat.eq_zero_or_pos len with h0 | h0
    ·have : L = [] := List.eq_nil_of_length_eq_zero (by rw [hL]; exact h0)
     rw [this] at hne
     exact absurd rfl hne
    ·exact h0
   have hz0 := (hcell 0 hpos 0 hn).1
   have hs : a.spot = none := by
    have := spot_none hz0
    simpa [Addr.add] using this
   obtain ⟨b, off, sp⟩ := a
   simp only at hs
   subst hs
   refine ⟨b, off, rfl, World.block_lt_of_cell? w _ (by simpa [Addr.add] using hz0), fun j hj => ?_⟩
   rw [flat_len c n hc, hL] at hj
   have hjn : j % n < n := Nat.mod_lt _ hn
   have hjd : j / n < len := Nat.div_lt_of_lt_mul (by rw [Nat.mul_comm]; exact hj)
   have e0 : j / n * n + j % n = j := by rw [Nat.mul_comm]; exact Nat.div_add_mod j n
   have g := (hcell (j / n) hjd (j % n) hjn).1
   have e1 : ((⟨b, off, none⟩ : Addr).add (j / n * n)).add (j % n) = ⟨b, off + j, none⟩ := by
    unfold Addr.add
    by_cases h1 : j / n * n = 0 <;> by_cases h2 : j % n = 0 <;> simp [h1, h2] <;> omega
   rw [e1] at g
   rw [g]
   have := flat_get c n hc (mk (F 0)) L (j / n) (j % n) hjn (by rw [hL]; exact hjd)
   rw [e0] at this
   rw [this, show L.getD (j / n) (mk (F 0)) = mk (F (j / n)) by simp [L, List.getD_eq_getElem?_getD, hjd], hmk _ _ hjn]
  ·obtain ⟨i, hi1, rfl⟩ := List.mem_map.1 hy
   exact ⟨_, rfl, fun j hj => (hcell i (List.mem_range.1 hi1) j hj).2⟩
end
def plX (a : Option Addr) (cs : List Value) : Option Pl := if cs = [] then none else a.map fun x => ⟨x.block, x.off, 0, 0⟩
def blX (cs : List Value) : Option Blk := if cs = [] then none else some ⟨cs, false, 0⟩
def vaX (i n : Nat) (z : Bool) : Value := if n = 0 then (if z then .slice none 0 0 else lostV) else .slice (some ⟨i, 0, none⟩) n INF
theorem vaX_rel {w : World} {ρ : Ren} {i n : Nat} {a : Option Addr} {cs : List Value} {cap : Nat} (hS : SlX w a cs) (hn : cs = [] ↔ n = 0) (hc : n ≤ cap) (hz : a = none → cap = 0) (hρ : ρ i = plX a cs) : VRel ρ (vaX i n a.isNone) (.slice a n cap) := by
 unfold vaX
 by_cases hl : n = 0
 ·rw [if_pos hl]
  subst hl
  cases a with
  | none => rw [hz rfl]; exact .scal rfl
  | some a => exact .lost
 ·rw [if_neg hl]
  have hne : cs ≠ [] := fun h => hl (hn.1 h)
  obtain ⟨b, off, rfl, hb, hm⟩ := hS hne
  unfold plX at hρ
  rw [if_neg hne] at hρ
  have := VRel.slice (ρ := ρ) (b := i) (o := 0) (n := n) (c := INF) (c' := cap) hρ hc (fun h => absurd h (by decide)) (fun h => absurd rfl h)
  simpa using this
theorem blX_rel {w : World} {ρ : Ren} {i : Nat} {a : Option Addr} {cs : List Value} (hs : cs.all scal = true) (hS : SlX w a cs) (hρ : ρ i = plX a cs) {blk : Blk} (hb : blX cs = some blk) : ∃ pl, ρ i = some pl ∧ BRel ρ blk pl w := by
 unfold blX at hb
 split at hb
 ·cases hb
 ·rename_i hl
  cases hb
  obtain ⟨b, off, rfl, hbw, hcell⟩ := hS hl
  unfold plX at hρ
  rw [if_neg hl] at hρ
  have hp : 0 < cs.length := List.length_pos_iff.2 hl
  have h0 := hcell 0 hp
  simp only [World.cell?] at h0
  refine ⟨_, hρ, ?_⟩
  cases ho : w.heap[b]? with
  | none => rw [ho] at h0; simp [List.getElem?_eq_getElem hp] at h0
  | some o =>
   cases o with
   | cells c ty fr =>
    refine ⟨_, c, ty, fr, ho, rfl, rfl, fun i v hv => ?_, fun h => by cases h⟩
    have hi := (List.getElem?_eq_some_iff.1 hv).1
    have := hcell i hi
    simp only [World.cell?, ho] at this
    rw [hv] at this
    exact ⟨v, by simpa [Nat.add_comm] using this, .scal (List.all_eq_true.1 hs v (List.mem_of_getElem? hv))⟩
   | _ => rw [ho] at h0; simp [List.getElem?_eq_getElem hp] at h0
theorem blX_ro (cs : List Value) (b : Blk) (h : blX cs = some b) : b.own = false := by
 unfold blX at h
 split at h
 ·cases h
 ·cases h; rfl
end Go.Ls
end
/- The small memory: '==' of slices with nil. -/
section
set_option linter.unusedSimpArgs false
set_option linter.unusedVariables false
namespace Go
namespace Ab
open Go.RowKit
section
variable {P : Program} {t : T} {m : Mem} {dst : Option Tmp} {ty ty' rt : TypeId} {pos : String} {after : Array Edge} {guard : Option (Nat × Bool)} {x y : Operand}
theorem VRel.sl_inv {ρ : Ren} {a : Option Addr} {n c : Nat} {v : Value} (h : VRel ρ (.slice a n c) v) : ∃ a' n' c', v = .slice a' n' c' ∧ a'.isNone = a.isNone := by
 cases h with
 | scal h => exact ⟨_, _, _, rfl, rfl⟩
 | slice h h1 h2 h3 => exact ⟨_, _, _, rfl, rfl⟩
 | empty => exact ⟨_, _, _, rfl, rfl⟩
 | lost => exact ⟨_, _, _, rfl, rfl⟩
theorem sl_eq {e ty : TypeId} {a : Option Addr} {n c : Nat} {w : World} (hs : P.underlying ty = some (.slice e)) : (Op.equal ty (.slice a n c) (.slice none 0 0)).run P w = .ok a.isNone w := by
 unfold Op.equal Op.maxDepth Op.equalIn
 cases a <;> simp [run_und hs, Sem.run_bind, Sem.run_pure]
theorem OQ.slnil {a : Option Addr} {n c : Nat} {e : TypeId} (hx : t.ev x = .slice a n c) (hy : t.ev y = .slice none 0 0) (hs : P.underlying ty = some (.slice e)) : OQ P ⟨dst, .binOp .eql ty x y ty', rt, pos, after, guard⟩ t m (.bool a.isNone) :=
 fun ρ a' w ht _ => by
  obtain ⟨b, n', c', hb, hn⟩ := VRel.sl_inv (hx ▸ ht.ev x)
  have hy' : a'.eval y = .slice none 0 0 := VRel.of_scal (hy ▸ ht.ev y) rfl
  refine ⟨_, .scal rfl, fun w' _ => ?_⟩
  have := sl_eq (a := b) (n := n') (c := c') (w := w') hs
  rw [hn] at this
  simp [execOp, hb, hy', eqGuard, binOp, Sem.run_bind, Sem.run_pure, this]
theorem OW.makeSl {st e : TypeId} {k z by' : Nat} {zs : List Value} (hx : t.ev x = .int .i64 k) (he : elemT P st = some e) (hz : szOf P e = some z) (h0 : zeroOf P e = some zs) (hs : zs.all scal = true) (hzl : zs.length = z) (hb : bytesOf' P e = some by') (hz0 : z ≠ 0) (hk : k * by' ≤ 140737488355327) (hk' : k ≤ 1099511627776) :
  OW P ⟨dst, .makeSlice st x x, rt, pos, after, guard⟩ t m (.slice (some ⟨m.length, 0, none⟩) k k) (m ++ [some ⟨(List.range (k * z)).map fun i => zs.getD (i % z) default, true, z⟩]) := by
 intro E ρ a w ht hst
 obtain ⟨i, zv, i1, i2, i3, i4, i5⟩ := info_of hz h0 hb
 have hxe : a.eval x = .int .i64 k := VRel.int (hx ▸ ht.ev x)
 have hw : IntKind.i64.wrap (k : Int) = k := wrap_id (by omega)
 have hcells : (Array.range (k * z)).map (fun x => zv.cells[x % zv.cells.size]!) = ((List.range (k * z)).map fun i => zs.getD (i % z) default).toArray := by
  rw [i5]
  apply Array.ext
  ·simp
  ·intro i h h'
   simp only [Array.getElem_map, Array.getElem_range, List.getElem_toArray, List.getElem_map, List.getElem_range, List.size_toArray, hzl]
   have hlt : i % z < zs.length := by rw [hzl]; exact Nat.mod_lt _ (Nat.pos_of_ne_zero hz0)
   simp [List.getD_eq_getElem?_getD, hlt]
 have hsc : ∀ (j : Nat) (v : Value), ((List.range (k * z)).map fun i => zs.getD (i % z) default)[j]? = some v → scal v = true := fun j v hv => by
  obtain ⟨i, _, rfl⟩ := List.mem_map.1 (List.mem_of_getElem? hv)
  have hlt : i % z < zs.length := by rw [hzl]; exact Nat.mod_lt _ (Nat.pos_of_ne_zero hz0)
  rw [List.getD_eq_getElem?_getD, List.getElem?_eq_getElem hlt]
  exact List.all_eq_true.1 hs _ (List.getElem_mem hlt)
 have hlen : ((List.range (k * z)).map fun i => zs.getD (i % z) default).length = k * z := by simp
 generalize hX : ((List.range (k * z)).map fun i => zs.getD (i % z) default) = X at *
 refine ⟨.slice (some ⟨w.heap.size, 0, none⟩) k k, _, _, .inl ?_, hst.ext_new ⟨w.heap.size, 0, z, X.toArray.size⟩, ?_, hst.new (ty := e) (esz := z) (c := X.toArray) (cells := X) (fun j v hv => ⟨v, by simpa using hv, .scal (hsc j v hv)⟩)⟩
 ·have hti : (typeInfo e).run P w = .ok i w := by simp [typeInfo, i1, go_sem]
  obtain ⟨zv', hz1, hz2⟩ := run_zero (w := w) h0
  simp only [execOp, Instr.makeSlice, hxe, asInt, asIntOf, Sem.run_bind, Sem.run_pure, run_und (elemT_spec he), Result.andThen_ok, hw, run_size hz, hti, i4]
  have hcnd : (decide ((k : Int) < 0) || decide ((by' : Int) * (k : Int) > 2 ^ 48) || decide ((k : Int) < 0) || decide ((k : Int) > (k : Int))) = false := by
   have : ((k * by' : Nat) : Int) ≤ 140737488355327 := by omega
   rw [Int.natCast_mul, Int.mul_comm] at this
   simp only [Bool.or_eq_false_iff, decide_eq_false_iff_not]
   omega
  have hroom : (askRoom (k * by')).run P w = .ok () w := by
   unfold askRoom
   rw [if_neg (by show ¬ k * by' > 2 ^ 47; omega)]
   rfl
  rw [hcnd]
  simp only [Bool.false_eq_true, if_false, Sem.run_bind, hroom, Result.andThen_ok, run_size hz, Int.toNat_natCast]
  by_cases hkz : k * z = 0
  ·rw [if_pos hkz]
   have hX0 : X = [] := List.eq_nil_of_length_eq_zero (by rw [hlen, hkz])
   subst hX0
   simp [Sem.run_bind, Sem.run_pure, newRow, hkz, go_sem]
  ·rw [if_neg hkz]
   have hz1' : (zeroValue e).run P w = .ok zv' w := hz1
   have hzz : zv'.cells = zv.cells := by rw [hz2, i5]
   rw [← hzz] at hcells
   simp only [Sem.run_bind, hz1', Result.andThen_ok, Sem.run_pure]
   erw [hcells]
   simp [newRow, go_sem]
 ·exact .slice (b := m.length) (o := 0) (pl := ⟨w.heap.size, 0, z, X.toArray.size⟩) (by unfold Ren.new; rw [if_pos rfl]) (Nat.le_refl _) (fun _ => Nat.le_refl _) (fun _ => by simp [hlen])
end
end Ab
end Go
end
/- Chapter 6: points: what is small, the turn of three, the circle of three and a fourth one: both sides. -/
section
set_option linter.unusedSimpArgs false
set_option linter.unusedVariables false
section
namespace Go.Me
open Go.Ab
abbrev ptV (p : Pn) : Value := .agg #[.int .i64 p.x, .int .i64 p.y]
def ptC (p : Pn) : List Value := [.int .i64 p.x, .int .i64 p.y]
def flatP (l : List Pn) : List Value := l.flatMap ptC
theorem flatP_len (l : List Pn) : (flatP l).length = l.length * 2 := Ls.flat_len ptC 2 (fun _ => rfl) l
theorem flatP_scal (l : List Pn) : (flatP l).all Ab.scal = true := Ls.flat_scal ptC (fun _ => rfl) l
theorem flatP_snoc (l : List Pn) (p : Pn) : flatP (l ++ [p]) = flatP l ++ ptC p := Ls.flat_snoc ptC l p
theorem flatP_ld {m : Mem} {b : Nat} {blk : Blk} {l : List Pn} (hb : m.at b = some blk) (hc : blk.cells = flatP l) (k : Nat) (hk : k < l.length) : m.ld b (k * 2) 2 = some [.int .i64 (pt l k).x, .int .i64 (pt l k).y] := Ls.flat_ld ptC 2 (fun _ => rfl) ⟨0, 0⟩ l hb hc k hk
def okP (p : Pn) : Bool := decide ((-10000 ≤ p.x ∧ p.x ≤ 10000) ∧ (-10000 ≤ p.y ∧ p.y ≤ 10000))
theorem okP_ok {p : Pn} (h : okP p = true) : p.Ok := by
 have := of_decide_eq_true h
 exact ⟨this.1.1, this.1.2, this.2.1, this.2.2⟩
theorem Pn.Ok.b {p : Pn} (h : p.Ok) : (-10000 ≤ p.x ∧ p.x ≤ 10000) ∧ (-10000 ≤ p.y ∧ p.y ≤ 10000) := ⟨⟨h.x0, h.x1⟩, h.y0, h.y1⟩
theorem cr_bd {a b c : Pn} (ha : a.Ok) (hb : b.Ok) (hc : c.Ok) : (-400000000 ≤ (b.x - a.x) * (c.y - a.y) ∧ (b.x - a.x) * (c.y - a.y) ≤ 400000000) ∧ (-400000000 ≤ (b.y - a.y) * (c.x - a.x) ∧ (b.y - a.y) * (c.x - a.x) ≤ 400000000) := by
 obtain ⟨a1, a2⟩ := ha.b
 obtain ⟨b1, b2⟩ := hb.b
 obtain ⟨c1, c2⟩ := hc.b
 have h1 := mul_bd (m := b.x - a.x) (n := c.y - a.y) (a := 20000) (b := 20000) (by omega) (by omega) (by decide)
 have h2 := mul_bd (m := b.y - a.y) (n := c.x - a.x) (a := 20000) (b := 20000) (by omega) (by omega) (by decide)
 exact ⟨h1, h2⟩
theorem ro1p (b : Blk) (h : b.own = false) : Mem.ro [some b] := fun k blk hk => by
 match k, hk with
 | 0, hk => cases hk; exact h
def rgB (n lo hi : Int) : Bool := decide (lo ≤ n ∧ n ≤ hi)
end Go.Me
namespace Go.Proofs.YtmohcmghbfhdlaaGreat
open Go Go.RowKit Go.Ab Go.Me
set_option maxRecDepth 100000
set_option maxHeartbeats 2000000
attribute [local irreducible] OQ OW AL AW AF SW
theorem within_q (n lo hi : Int) (m : Mem) : PCalls Tryz.prog 89 [.int .i64 n, .int .i64 lo, .int .i64 hi] m (.bool (rgB n lo hi)) := by
 refine PCalls.any ?_ rfl rfl m
 refine PCalls.en 12 Tryz.func89 rfl (ro_nil) rfl (fun E => ?_)
 repeat' (first | with_reducible (refine Then.n ?_) | ((with_reducible refine AL.on ?_); first | (refine AL.gd rfl ?_; (refine AL.gs1 rfl rfl (fun hc => ?_) (fun hc => ?_) <;> (try replace hc := nc hc) <;> first | (exfalso; contradiction; done) | refine AL.nm ?_)) | ((first | refine AL.mv ?_ | refine AL.as ?_ | ((with_reducible refine AL.k_binOp ?_); refine AL.g (OQ.leq rfl rfl) ?_) | ((with_reducible refine AL.k_pick ?_); first | refine AL.pT ?_ | refine AL.pF ?_)); refine AL.nm ?_) | refine AL.nil ?_) | ((with_reducible refine AW.on ?_); first | refine AW.seq ?_ | refine AW.ret ?_ | refine AW.region ?_) | ((with_reducible refine FinP.on ?_); (refine FinP.ret (.tmp wl .nil) ?_ rfl); (try simp only [pack, List.drop, List.take]); all_goals (congr 1; unfold rgB; symm; first | (apply decide_eq_false; omega) | (apply decide_eq_decide.2; omega))))
theorem rWithin_q (n lo hi : Int) (m : Mem) : PCalls Tryz.prog 69 [.int .i64 n, .int .i64 lo, .int .i64 hi] m (.bool (rgB n lo hi)) := by
 refine PCalls.any ?_ rfl rfl m
 refine PCalls.en 12 Tryz.func69 rfl (ro_nil) rfl (fun E => ?_)
 repeat' (first | with_reducible (refine Then.n ?_) | ((with_reducible refine AL.on ?_); first | (refine AL.gd rfl ?_; (refine AL.gs1 rfl rfl (fun hc => ?_) (fun hc => ?_) <;> (try replace hc := nc hc) <;> first | (exfalso; contradiction; done) | refine AL.nm ?_)) | ((first | refine AL.mv ?_ | refine AL.as ?_ | ((with_reducible refine AL.k_binOp ?_); refine AL.g (OQ.leq rfl rfl) ?_) | ((with_reducible refine AL.k_pick ?_); first | refine AL.pT ?_ | refine AL.pF ?_)); refine AL.nm ?_) | refine AL.nil ?_) | ((with_reducible refine AW.on ?_); first | refine AW.seq ?_ | refine AW.ret ?_ | refine AW.region ?_) | ((with_reducible refine FinP.on ?_); (refine FinP.ret (.tmp wl .nil) ?_ rfl); (try simp only [pack, List.drop, List.take]); all_goals (congr 1; unfold rgB; symm; first | (apply decide_eq_false; omega) | (apply decide_eq_decide.2; omega))))
theorem isNaN_q (n : Int) (m : Mem) : PCalls Tryz.prog 173 [.int .i64 n] m (.bool false) := by
 refine PCalls.any ?_ rfl rfl m
 refine PCalls.en 5 Tryz.func173 rfl (ro_nil) rfl (fun E => ?_)
 repeat' (first | with_reducible (refine Then.n ?_) | ((with_reducible refine AL.on ?_); first | ((first | refine AL.as ?_ | refine AL.mv ?_ | ((with_reducible refine AL.k_binOp ?_); refine AL.g (OQ.neq rfl rfl) ?_)); refine AL.nm ?_) | refine AL.nil ?_) | ((with_reducible refine AW.on ?_); first | refine AW.seq ?_ | refine AW.ret ?_ | refine AW.region ?_) | ((with_reducible refine FinP.on ?_); (refine FinP.ret (.tmp wl .nil) ?_ rfl); (try simp only [pack, List.drop, List.take]); all_goals (((congr 1; simp)))))
def cmpI (a b : Int) : Int := if a < b then -1 else if b < a then 1 else 0
theorem Compare_q (a b : Int) (m : Mem) : PCalls Tryz.prog 147 [.int .i64 a, .int .i64 b] m (.int .i64 (cmpI a b)) := by
 refine PCalls.any ?_ rfl rfl m
 unfold cmpI
 refine PCalls.en 18 Tryz.func147 rfl (ro_nil) rfl (fun E => ?_)
 repeat' (first | with_reducible (first | refine Then.n ?_ | refine Then.r ?_) | ((with_reducible refine AL.on ?_); first | ((first | refine AL.as ?_ | refine AL.mv ?_ | ((with_reducible refine AL.k_binOp ?_); first | refine AL.g (OQ.lss rfl rfl) ?_ | refine AL.g (OQ.gtr rfl rfl) ?_)); refine AL.nm ?_) | ((refine AL.pcall (g := 173) rfl kr rfl (isNaN_q _ _) ?_); refine AL.nm ?_) | refine AL.nil ?_) | ((with_reducible refine AW.on ?_); first | refine AW.seq ?_ | refine AW.skip ?_ | refine AW.ret ?_ | refine AW.region ?_ | (refine AW.conds rfl (fun hc => ?_) (fun hc => ?_) <;> (try replace hc := nc hc) <;> first | (exfalso; contradiction) | skip)) | ((with_reducible refine FinP.on ?_); (refine FinP.ret (.tmp wl .nil) ?_ rfl); (try simp only [pack, List.drop, List.take]); all_goals ((congr 1; (repeat' split) <;> omega))))
theorem cmpI_0 (n : Int) : cmpI n 0 = sgn n := by
 unfold cmpI sgn
 repeat' split
 all_goals omega
theorem sign_q (n : Int) (m : Mem) : PCalls Tryz.prog 162 [.int .i64 n] m (.int .i64 (sgn n)) := by
 refine PCalls.any ?_ rfl rfl m
 have h := fun m => Compare_q n 0 m
 rw [cmpI_0] at h
 generalize sgn n = s at *
 refine PCalls.en 4 Tryz.func162 rfl (ro_nil) rfl (fun E => ?_)
 repeat' (first | with_reducible (refine Then.n ?_) | ((with_reducible refine AL.on ?_); first | ((first | refine AL.as ?_ | refine AL.mv ?_); refine AL.nm ?_) | ((refine AL.pcall (g := 147) rfl kr rfl (h _) ?_); refine AL.nm ?_) | refine AL.nil ?_) | ((with_reducible refine AW.on ?_); first | refine AW.seq ?_ | refine AW.ret ?_ | refine AW.region ?_) | ((with_reducible refine FinP.on ?_); (refine FinP.ret (.tmp wl .nil) ?_ rfl); (try simp only [pack, List.drop, List.take]); all_goals (rfl)))
theorem turn_q {a b c : Pn} (ha : a.Ok) (hb : b.Ok) (hc : c.Ok) (m : Mem) : PCalls Tryz.prog 133 [ptV a, ptV b, ptV c] m (.int .i64 (sgn (cr a b c))) := by
 refine PCalls.any ?_ rfl rfl m
 obtain ⟨d1, d2⟩ := cr_bd ha hb hc
 obtain ⟨a1, a2⟩ := ha.b
 obtain ⟨b1, b2⟩ := hb.b
 obtain ⟨c1, c2⟩ := hc.b
 have hs := fun m => sign_q (cr a b c) m
 unfold cr at hs ⊢
 refine PCalls.en 28 Tryz.func133 rfl (ro_nil) rfl (fun E => ?_)
 repeat' (first | with_reducible (refine Then.n ?_) | ((with_reducible refine AL.on ?_); first | ((first | ((with_reducible refine AL.k_fieldAddr ?_); first | refine AL.g (OQ.fieldA (ty := 65) (i := 0) (n := 1) (off := 0) (g := false) rfl kr (by decide)) ?_ | refine AL.g (OQ.fieldA (ty := 65) (i := 1) (n := 1) (off := 1) (g := false) rfl kr (by decide)) ?_) | ((with_reducible refine AL.k_load ?_); (refine AL.g (OQ.load1 (ty := 3) rfl kr wl) ?_)) | ((with_reducible refine AL.k_binOp ?_); first | refine AL.g (OQ.subi rfl rfl (by omega)) ?_ | refine AL.g (OQ.muli rfl rfl (by omega)) ?_) | refine AL.as ?_); refine AL.nm ?_) | ((refine AL.pcall (g := 162) rfl kr rfl (hs _) ?_); refine AL.nm ?_) | ((refine AL.bx ?_); refine AL.nm ?_; refine AL.nM ?_) | refine AL.nil ?_) | ((with_reducible refine AW.on ?_); first | refine AW.seq ?_ | refine AW.ret ?_ | refine AW.region ?_) | ((with_reducible refine FinP.on ?_); (refine FinP.ret (.tmp wl .nil) ?_ rfl); (try simp only [pack, List.drop, List.take]); all_goals (rfl)))
theorem isPoint_q (p : Pn) (m : Mem) : PCalls Tryz.prog 140 [ptV p] m (.bool (okP p)) := by
 refine PCalls.any ?_ rfl rfl m
 have h1 := fun m => rWithin_q p.x (-10000) 10000 m
 have h2 := fun m => rWithin_q p.y (-10000) 10000 m
 have e : okP p = (rgB p.x (-10000) 10000 && rgB p.y (-10000) 10000) := by unfold okP rgB; simp
 rw [e]
 generalize rgB p.x (-10000) 10000 = A at *
 generalize rgB p.y (-10000) 10000 = B at *
 cases A <;> cases B
 all_goals
  refine PCalls.en 10 Tryz.func140 rfl (ro_nil) rfl (fun E => ?_)
  repeat' (first | with_reducible (refine Then.n ?_) | ((with_reducible refine AL.on ?_); first | (refine AL.gd rfl ?_; (refine AL.gs1 rfl rfl (fun hc => ?_) (fun hc => ?_) <;> (try replace hc := nc hc) <;> first | (exfalso; contradiction) | refine AL.nm ?_)) | ((first | refine AL.as ?_ | ((with_reducible refine AL.k_fieldAddr ?_); first | refine AL.g (OQ.fieldA (ty := 65) (i := 0) (n := 1) (off := 0) (g := false) rfl kr (by decide)) ?_ | refine AL.g (OQ.fieldA (ty := 65) (i := 1) (n := 1) (off := 1) (g := false) rfl kr (by decide)) ?_) | ((with_reducible refine AL.k_load ?_); (refine AL.g (OQ.load1 (ty := 3) rfl kr wl) ?_)) | refine AL.mv ?_ | ((with_reducible refine AL.k_pick ?_); first | refine AL.pT ?_ | refine AL.pF ?_)); refine AL.nm ?_) | ((refine AL.pcall (g := 69) rfl kr rfl ((by first | exact h1 _ | exact h2 _)) ?_); refine AL.nm ?_) | ((refine AL.bx ?_); refine AL.nm ?_; refine AL.nM ?_) | refine AL.nil ?_) | ((with_reducible refine AW.on ?_); first | refine AW.seq ?_ | refine AW.ret ?_ | refine AW.region ?_) | ((with_reducible refine FinP.on ?_); (refine FinP.ret (.tmp wl .nil) ?_ rfl); (try simp only [pack, List.drop, List.take]); all_goals (rfl)))
def plE (l : List Pn) : Int := if l.all okP then 0 else 2
theorem placeErr_0 (l : List Pn) (hl : l.length ≤ 100000) (c z : Nat) : PCalls Tryz.prog 97 [.slice (some ⟨0, 0, none⟩) l.length c] [some ⟨flatP l, false, z⟩] (.int .i64 (plE l)) := by
 have hld := fun (k : Nat) (hk : k < l.length) (r : Mem) => flatP_ld (m := some ⟨flatP l, false, z⟩ :: r) (b := 0) (l := l) rfl rfl k hk
 have hw := fun (n : Int) (m : Mem) => within_q n (-10000) 10000 m
 have hno : ∀ k, k < l.length → (rgB (pt l k).x (-10000) 10000 = false ∨ rgB (pt l k).y (-10000) 10000 = false) → plE l = 2 := fun k hk h => by
  unfold plE
  rw [if_neg]
  intro ha
  have := List.all_eq_true.1 ha _ (pt_mem hk)
  have e : okP (pt l k) = (rgB (pt l k).x (-10000) 10000 && rgB (pt l k).y (-10000) 10000) := by unfold okP rgB; simp
  rw [e] at this
  rcases h with h | h <;> rw [h] at this <;> simp at this
 have hyes : (∀ k, k < l.length → rgB (pt l k).x (-10000) 10000 = true ∧ rgB (pt l k).y (-10000) 10000 = true) → plE l = 0 := fun h => by
  unfold plE
  rw [if_pos]
  refine List.all_eq_true.2 fun p hp => ?_
  obtain ⟨i, hi, rfl⟩ := mem_pt hp
  have e : okP (pt l i) = (rgB (pt l i).x (-10000) 10000 && rgB (pt l i).y (-10000) 10000) := by unfold okP rgB; simp
  rw [e, (h i hi).1, (h i hi).2]
  rfl
 generalize plE l = E0 at *
 refine PCalls.enJ 21 Tryz.func97 rfl (ro1p _ rfl) rfl (fun E hE => ?_)
 repeat' (first | with_reducible (first | refine Then.n ?_ | refine Then.r ?_ | refine Then.x ?_ | refine InB.n ?_ | refine InB.r ?_ | refine InB.hit ?_) | ((with_reducible refine AL.on ?_); first | (refine AL.gd rfl ?_; (refine AL.gs0 rfl rfl (fun hc => ?_) (fun hc => ?_) <;> (try replace hc := nc hc) <;> first | (exfalso; contradiction) | refine AL.nm ?_)) | ((first | refine AL.mv ?_ | refine AL.as ?_ | ((with_reducible refine AL.k_call ?_); refine AL.g (OQ.lenS (xt := 22) (r := (none, 2, true)) rfl kr) ?_) | ((with_reducible refine AL.k_load ?_); first | refine AL.g (OQ.loadN (ty := 65) (n := 2) rfl kr kr (by (exact hld _ (by omega) _))) ?_ | (refine AL.g (OQ.load1 (ty := 3) rfl kr (by (conv => lhs; whnf))) ?_)) | ((with_reducible refine AL.k_binOp ?_); first | refine AL.g (OQ.lss rfl rfl) ?_ | refine AL.g (OQ.addi rfl rfl (by omega)) ?_) | ((with_reducible refine AL.k_unOp ?_); refine AL.g (OQ.not rfl) ?_) | ((with_reducible refine AL.k_pick ?_); first | refine AL.pT ?_ | refine AL.pF ?_)); refine AL.nm ?_) | ((first | ((with_reducible refine AL.k_call ?_); refine AL.pcall (g := 89) rfl kr rfl (hw _ _) ?_) | ((with_reducible refine AL.k_fieldAddr ?_); first | refine AL.g (OQ.fieldA (ty := 65) (i := 0) (n := 1) (off := 0) (g := false) rfl kr (by decide)) ?_ | refine AL.g (OQ.fieldA (ty := 65) (i := 1) (n := 1) (off := 1) (g := false) rfl kr (by decide)) ?_) | ((with_reducible refine AL.k_indexAddr ?_); refine AL.g (OQ.idxAddr (ty := 22) (z := 2) (g := true) rfl rfl kr (by omega) (by omega)) ?_)); refine AL.nm ?_) | ((first | ((with_reducible refine AL.k_alloc ?_); refine AL.w rfl (OW.alloc (ty := 65) (z := [.int .i64 0, .int .i64 0]) kr rfl) ?_) | ((with_reducible refine AL.k_store ?_); (refine AL.w rfl (OW.store (ty := 65) (n := 2) rfl wl rfl rfl kr rfl rfl (by decide) rfl (Nat.le_of_ble_eq_true rfl) (by intro r h; cases h)) ?_))); refine AL.nm ?_; refine AL.nM ?_) | refine AL.nil ?_) | ((with_reducible refine AW.on ?_); first | refine AW.seq ?_ | refine AW.skip ?_ | refine AW.exit ?_ | refine AW.ret ?_ | ((refine AW.block (id := 0) ?_); (refine AW.fk [5, 6, 7] ?_); (refine AW.loop (fun n t' m => ∃ k : Nat, n = l.length - k ∧ k ≤ l.length ∧ (∀ j, j < k → rgB (pt l j).x (-10000) 10000 = true ∧ rgB (pt l j).y (-10000) 10000 = true) ∧ t' = (mtz 22 0 [(5, .slice (some ⟨0, 0, none⟩) l.length c), (6, .int .i64 (l.length)), (7, .int .i64 (k))]) ∧ m = [some ⟨flatP l, false, z⟩]) (l.length) (by exact ⟨0, rfl, Nat.zero_le _, fun j h => absurd h (by omega), rfl, rfl⟩) ?_); (rintro n t' m ⟨k, rfl, hk, hj, rfl, rfl⟩); (refine AW.nT ?_)) | refine AW.block ?_ | refine AW.region ?_ | (refine AW.conds rfl (fun hc => ?_) (fun hc => ?_) <;> (try replace hc := nc hc) <;> first | (exfalso; contradiction) | skip)) | ((with_reducible refine ex_on ?_); (refine ⟨l.length - (k + 1), [jk, jk, jk, jk, jk, .slice (some ⟨0, 0, none⟩) l.length c, .int .i64 (l.length), .int .i64 (k + 1), jk, jk, jk, jk, jk, jk, jk, jk, jk, jk, jk, jk, jk, jk], [some ⟨flatP l, false, z⟩], by omega, ?_, k + 1, rfl, by omega, fun j h => (by rcases Nat.lt_or_eq_of_le (Nat.le_of_lt_succ h) with h | rfl; (exact hj j h); (constructor <;> assumption)), rfl, rfl⟩; exact Wk.keep 1 [] (Nat.le_of_eq hE) rfl rfl (by repeat (first | exact RenT.nil | refine RenT.jk ?_ | refine RenT.val (by rfl) (by rfl) ?_)) ⟨kl rfl (flatP_scal l), trivial⟩)) | ((with_reducible refine FinJ.on ?_); first | (rw [hno k (by omega) (by first | (left; assumption) | (right; assumption))]; exact FinJ.ret (.tmp wl .nil) (jle_flat rfl)) | (obtain rfl : k = l.length := (by omega); rw [hyes hj]; exact FinJ.ret (.tmp wl .nil) (jle_flat rfl))))
end Go.Proofs.YtmohcmghbfhdlaaGreat
end
end
/- Chapter 6: Turn and InCircle of both sides. -/
section
set_option linter.unusedSimpArgs false
set_option linter.unusedVariables false
section
namespace Go.Me
end Go.Me
namespace Go.Proofs.YtmohcmghbfhdlaaGreat
open Go Go.RowKit Go.Ab Go.Me
set_option maxRecDepth 100000
set_option maxHeartbeats 4000000
attribute [local irreducible] OQ OW AL AW AF SW
theorem plE_cons (p : Pn) (l : List Pn) : plE (p :: l) = if okP p = true then plE l else 2 := by
 unfold plE
 rw [List.all_cons]
 cases okP p <;> simp
theorem plE_nil : plE [] = 0 := rfl
theorem placeErr_q {m : Mem} {b n c : Nat} {blk : Blk} (l : List Pn) (hb : m.at b = some blk) (hc : blk.cells = flatP l) (hn : l.length = n) (hl : l.length ≤ 100000) (ho : blk.obj = Ob.plain := by rfl) : PCalls Tryz.prog 97 [.slice (some ⟨b, 0, none⟩) n c] m (.int .i64 (plE l)) := by
 subst hn
 exact PCalls.viaS [b] (placeErr_0 l hl c blk.esz) (ro1p _ rfl) ⟨bS hb ho hc (flatP_scal _), trivial⟩ rfl rfl rfl rfl
end Go.Proofs.YtmohcmghbfhdlaaGreat
end
end
