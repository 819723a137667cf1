/- Chapter 6: illegal edges (plain): the map of far corners, the first illegal edge, and that without one all circles are empty. -/
import Derived.Test.YtmohcmghbfhdlaaGreatRc
import Derived.Test.YtmohcmghbfhdlaaGreatRd
import Derived.Test.YtmohcmghbfhdlaaGreatQj
import Derived.WideKeyEntry
section
set_option linter.unusedSimpArgs false
set_option linter.unusedVariables false
namespace Go.Me
open Go.Ab Go.Proofs.YtmohcmghbfhdlaaGreat
set_option maxRecDepth 100000
def cn (ts : List T3) : Nat → List (IE × Int)
  | 0 => []
  | k + 1 => cn ts k ++ [(((tr ts k).1, (tr ts k).2.1), (tr ts k).2.2)] ++ [(((tr ts k).2.1, (tr ts k).2.2), (tr ts k).1)] ++ [(((tr ts k).2.2, (tr ts k).1), (tr ts k).2.1)]
theorem cn_keys (ts : List T3) : ∀ k, (cn ts k).map (·.1) = (lf ts k).map (·.1)
  | 0 => rfl
  | k + 1 => by
    show (cn ts k ++ _ ++ _ ++ _).map (·.1) = (lf ts k ++ _ ++ _ ++ _).map (·.1)
    simp only [List.map_append, List.map_cons, List.map_nil, cn_keys ts k]
def cnA (ts : List T3) : List (IE × Int) := cn ts ts.length
structure Cn3 (ts : List T3) (k : Nat) : Prop where
  a1 : ∀ p ∈ lfV (cn ts k), okE p.1
  a2 : ∀ p ∈ lfV (cn ts k) ++ [(((tr ts k).1, (tr ts k).2.1), Value.int .i64 (tr ts k).2.2)], okE p.1
  a3 : ∀ p ∈ lfV (cn ts k) ++ [(((tr ts k).1, (tr ts k).2.1), Value.int .i64 (tr ts k).2.2)] ++ [(((tr ts k).2.1, (tr ts k).2.2), Value.int .i64 (tr ts k).1)], okE p.1
  b1 : ((tr ts k).1, (tr ts k).2.1) ∉ (lfV (cn ts k)).map (·.1)
  b2 : ((tr ts k).2.1, (tr ts k).2.2) ∉ (lfV (cn ts k) ++ [(((tr ts k).1, (tr ts k).2.1), Value.int .i64 (tr ts k).2.2)]).map (·.1)
  b3 : ((tr ts k).2.2, (tr ts k).1) ∉ (lfV (cn ts k) ++ [(((tr ts k).1, (tr ts k).2.1), Value.int .i64 (tr ts k).2.2)] ++ [(((tr ts k).2.1, (tr ts k).2.2), Value.int .i64 (tr ts k).1)]).map (·.1)
  o1 : okE ((tr ts k).1, (tr ts k).2.1)
  o2 : okE ((tr ts k).2.1, (tr ts k).2.2)
  o3 : okE ((tr ts k).2.2, (tr ts k).1)
  c : lfV (cn ts k) ++ [(((tr ts k).1, (tr ts k).2.1), Value.int .i64 (tr ts k).2.2)] ++ [(((tr ts k).2.1, (tr ts k).2.2), Value.int .i64 (tr ts k).1)] ++ [(((tr ts k).2.2, (tr ts k).1), Value.int .i64 (tr ts k).2.1)] = lfV (cn ts (k + 1))
theorem cn3 {l : List Pn} {ts : List T3} {k : Nat} (hl : l.length ≤ 1000) (h : LfOk l.length (lf ts k)) (he : trK l ts k = 0) : Cn3 ts k := by
  obtain ⟨h1, h2, h3, h4⟩ := lf_step h he
  have hk : ∀ k, (lfV (cn ts k)).map (·.1) = (lf ts k).map (·.1) := fun k => (lfV_keys _).trans (cn_keys ts k)
  have hall : ∀ e, e ∈ (lf ts (k + 1)).map (·.1) → okE e := fun e he => by
    obtain ⟨p, hp, rfl⟩ := List.mem_map.1 he
    exact h4.okE hl p hp
  have hs : ∀ e, e ∈ (lf ts k).map (·.1) → okE e := fun e he => hall e (lf_keys.2 (.inl he))
  have o1 : okE ((tr ts k).1, (tr ts k).2.1) := hall _ (lf_keys.2 (.inr (.inl rfl)))
  have o2 : okE ((tr ts k).2.1, (tr ts k).2.2) := hall _ (lf_keys.2 (.inr (.inr (.inl rfl))))
  have o3 : okE ((tr ts k).2.2, (tr ts k).1) := hall _ (lf_keys.2 (.inr (.inr (.inr rfl))))
  have a1 : ∀ p ∈ lfV (cn ts k), okE p.1 := fun p hp => hs _ (by rw [← hk k]; exact List.mem_map.2 ⟨p, hp, rfl⟩)
  have a2 : ∀ p ∈ lfV (cn ts k) ++ [(((tr ts k).1, (tr ts k).2.1), Value.int .i64 (tr ts k).2.2)], okE p.1 := fun p hp => by
    rcases List.mem_append.1 hp with hp | hp
    · exact a1 p hp
    · rw [List.mem_singleton] at hp
      subst hp
      exact o1
  refine ⟨a1, a2, fun p hp => ?_, by rw [hk]; exact h1, ?_, ?_, o1, o2, o3, ?_⟩
  · rcases List.mem_append.1 hp with hp | hp
    · exact a2 p hp
    · rw [List.mem_singleton] at hp
      subst hp
      exact o2
  · rw [List.map_append, hk]
    rw [List.map_append] at h2
    exact h2
  · rw [List.map_append, List.map_append, hk]
    rw [List.map_append, List.map_append] at h3
    exact h3
  · show _ = lfV (cn ts k ++ _ ++ _ ++ _)
    rw [lfV_app, lfV_app, lfV_app]
    rfl
theorem lk_of {L : List (IE × Int)} {e : IE} {x : Int} (hn : (L.map (·.1)).Nodup) (h : (e, x) ∈ L) : lk L e = x := by
  induction L with
  | nil => cases h
  | cons p r ih =>
    rw [List.map_cons, List.nodup_cons] at hn
    unfold lk
    rcases List.mem_cons.1 h with h | h
    · subst h
      rw [if_pos rfl]
    · rw [if_neg (fun e2 => hn.1 (by rw [e2]; exact List.mem_map.2 ⟨_, h, rfl⟩))]
      exact ih hn.2 h
theorem cn_in {ts : List T3} {j : Nat} : ∀ n, j < n → (((tr ts j).1, (tr ts j).2.1), (tr ts j).2.2) ∈ cn ts n ∧ (((tr ts j).2.1, (tr ts j).2.2), (tr ts j).1) ∈ cn ts n ∧ (((tr ts j).2.2, (tr ts j).1), (tr ts j).2.1) ∈ cn ts n
  | 0, h => absurd h (by omega)
  | n + 1, h => by
    have hs : cn ts (n + 1) = cn ts n ++ [(((tr ts n).1, (tr ts n).2.1), (tr ts n).2.2)] ++ [(((tr ts n).2.1, (tr ts n).2.2), (tr ts n).1)] ++ [(((tr ts n).2.2, (tr ts n).1), (tr ts n).2.1)] := rfl
    rw [hs]
    rcases Nat.lt_or_eq_of_le (Nat.le_of_lt_succ h) with h | rfl
    · obtain ⟨h1, h2, h3⟩ := cn_in (ts := ts) n h
      refine ⟨?_, ?_, ?_⟩ <;> simp [h1, h2, h3]
    · simp
theorem tri_ne {l : List Pn} {ts : List T3} (h : NetR l ts) {j : Nat} (hj : j < ts.length) : (tr ts j).1 ≠ (tr ts j).2.1 ∧ (tr ts j).2.1 ≠ (tr ts j).2.2 ∧ (tr ts j).2.2 ≠ (tr ts j).1 :=
  ⟨lf_ne h (p := (((tr ts j).1, (tr ts j).2.1), (j : Int))) ((lf_tri _).2 ⟨j, hj, rfl, .inl rfl⟩), lf_ne h (p := (((tr ts j).2.1, (tr ts j).2.2), (j : Int))) ((lf_tri _).2 ⟨j, hj, rfl, .inr (.inl rfl)⟩), lf_ne h (p := (((tr ts j).2.2, (tr ts j).1), (j : Int))) ((lf_tri _).2 ⟨j, hj, rfl, .inr (.inr rfl)⟩)⟩
theorem cnA_nd {l : List Pn} {ts : List T3} (h : NetR l ts) : ((cnA ts).map (·.1)).Nodup := by
  unfold cnA
  rw [cn_keys]
  exact h.ok.nd
theorem cnA_ok {l : List Pn} {ts : List T3} (h : NetR l ts) (hl : l.length ≤ 1000) : ∀ p ∈ cnA ts, okE p.1 := fun p hp => by
  have h1 : p.1 ∈ (lfA ts).map (·.1) := by
    have := cn_keys ts ts.length
    unfold lfA
    rw [← this]
    exact List.mem_map.2 ⟨p, hp, rfl⟩
  obtain ⟨q, hq, h2⟩ := List.mem_map.1 h1
  rw [← h2]
  exact h.ok.okE hl q hq
theorem cn_lk {l : List Pn} {ts : List T3} (h : NetR l ts) {j : Nat} (hj : j < ts.length) : lk (cnA ts) ((tr ts j).1, (tr ts j).2.1) = (tr ts j).2.2 ∧ lk (cnA ts) ((tr ts j).2.1, (tr ts j).2.2) = (tr ts j).1 ∧ lk (cnA ts) ((tr ts j).2.2, (tr ts j).1) = (tr ts j).2.1 := by
  obtain ⟨h1, h2, h3⟩ := cn_in (ts := ts) ts.length hj
  exact ⟨lk_of (cnA_nd h) h1, lk_of (cnA_nd h) h2, lk_of (cnA_nd h) h3⟩
theorem cn_third {l : List Pn} {ts : List T3} (h : NetR l ts) {j : Nat} (hj : j < ts.length) {a b c : Int} (h1 : isE (tr ts j) (a, b)) (h2 : isE (tr ts j) (b, c)) : lk (cnA ts) (a, b) = c := by
  obtain ⟨n1, n2, n3⟩ := tri_ne h hj
  obtain ⟨g1, g2, g3⟩ := cn_lk h hj
  unfold isE at h1 h2
  simp only [Prod.mk.injEq] at h1 h2
  rcases h1 with ⟨rfl, rfl⟩ | ⟨rfl, rfl⟩ | ⟨rfl, rfl⟩
  · rw [g1]; omega
  · rw [g2]; omega
  · rw [g3]; omega
def frT (t : T3) (e : Pn) : Int := if t.1 ≠ e.x ∧ t.1 ≠ e.y then t.1 else if t.2.1 ≠ e.x ∧ t.2.1 ≠ e.y then t.2.1 else if t.2.2 ≠ e.x ∧ t.2.2 ≠ e.y then t.2.2 else -1
theorem fr_cn {l : List Pn} {ts : List T3} (h : NetR l ts) {j : Nat} (hj : j < ts.length) {e : Pn} (he : isE (tr ts j) (e.y, e.x)) : frT (tr ts j) e = lk (cnA ts) (e.y, e.x) := by
  obtain ⟨n1, n2, n3⟩ := tri_ne h hj
  obtain ⟨g1, g2, g3⟩ := cn_lk h hj
  unfold isE at he
  unfold frT
  rcases he with he | he | he
  · rw [he, g1]
    simp only [Prod.mk.injEq] at he
    rw [if_neg (by omega), if_neg (by omega), if_pos (by omega)]
  · rw [he, g2]
    simp only [Prod.mk.injEq] at he
    rw [if_pos (by omega)]
  · rw [he, g3]
    simp only [Prod.mk.injEq] at he
    rw [if_neg (by omega), if_pos (by omega)]
theorem inD_ops (a b c d : Pn) : inD b a d c = inD a b c d := by unfold inD sq cd; grind
theorem inC_rot (a b c d : Pn) : inC b c a d = inC a b c d := by
  unfold inC
  rw [inD_rot, cr_rot]
def ilB (l : List Pn) (ts : List T3) (e : Pn) : Bool := decide (lk (lfA ts) (e.x, e.y) ≠ -1 ∧ lk (lfA ts) (e.y, e.x) ≠ -1 ∧ 0 < inC (pt l e.x.toNat) (pt l e.y.toNat) (pt l (lk (cnA ts) (e.x, e.y)).toNat) (pt l (lk (cnA ts) (e.y, e.x)).toNat))
theorem ilB_1 {l : List Pn} {ts : List T3} {e : Pn} (h : lk (lfA ts) (e.x, e.y) = -1) : ilB l ts e = false := decide_eq_false fun h2 => h2.1 h
theorem ilB_2 {l : List Pn} {ts : List T3} {e : Pn} (h : lk (lfA ts) (e.y, e.x) = -1) : ilB l ts e = false := decide_eq_false fun h2 => h2.2.1 h
theorem ilB_3 {l : List Pn} {ts : List T3} {e : Pn} (h : lk (lfA ts) (e.x, e.y) ≠ -1) (h2 : lk (lfA ts) (e.y, e.x) ≠ -1) : ilB l ts e = decide (0 < inC (pt l e.x.toNat) (pt l e.y.toNat) (pt l (lk (cnA ts) (e.x, e.y)).toNat) (pt l (lk (cnA ts) (e.y, e.x)).toNat)) :=
  decide_eq_decide.2 ⟨fun h3 => h3.2.2, fun h3 => ⟨h, h2, h3⟩⟩
def ilF (l : List Pn) (ts : List T3) (k : Nat) : Int := if ilB l ts (pt (edL ts) k) = true then 1 else 0
def ilI (l : List Pn) (ts : List T3) : Int := fstN (ilF l ts) (edL ts).length
theorem ilI_y {l : List Pn} {ts : List T3} {k : Nat} (hk : k < (edL ts).length) (hj : ∀ j, j < k → ilB l ts (pt (edL ts) j) = false) (h : ilB l ts (pt (edL ts) k) = true) : ilI l ts = k := by
  unfold ilI
  exact fstN_yes (fun j h2 => by unfold ilF; rw [hj j h2]; rfl) (by unfold ilF; rw [if_pos h]; decide) _ hk
theorem ilI_n {l : List Pn} {ts : List T3} (hj : ∀ j, j < (edL ts).length → ilB l ts (pt (edL ts) j) = false) : ilI l ts = -1 := by
  unfold ilI
  exact fstN_no _ fun j h => by unfold ilF; rw [hj j h]; rfl
theorem ilI_cases (l : List Pn) (ts : List T3) : (ilI l ts = -1 ∧ ∀ j, j < (edL ts).length → ilB l ts (pt (edL ts) j) = false) ∨ ∃ k : Nat, k < (edL ts).length ∧ ilI l ts = k := by
  rcases fst_cases (ilF l ts) (edL ts).length with h | ⟨i, h1, h2, h3⟩
  · refine .inl ⟨fstN_no _ h, fun j hj => ?_⟩
    have := h j hj
    unfold ilF at this
    cases hb : ilB l ts (pt (edL ts) j) with
    | false => rfl
    | true => rw [hb, if_pos rfl] at this; cases this
  · exact .inr ⟨i, h1, fstN_yes h2 h3 _ h1⟩
theorem il_ref {l : List Pn} {ts : List T3} (h : NetR l ts) {e : Pn} {i j : Nat} (hi : i < ts.length) (hj : j < ts.length) (h1 : lk (lfA ts) (e.x, e.y) = i) (h2 : lk (lfA ts) (e.y, e.x) = j) :
    inC (pt l (tr ts i).1.toNat) (pt l (tr ts i).2.1.toNat) (pt l (tr ts i).2.2.toNat) (pt l (frT (tr ts j) e).toNat) = inC (pt l e.x.toNat) (pt l e.y.toNat) (pt l (lk (cnA ts) (e.x, e.y)).toNat) (pt l (lk (cnA ts) (e.y, e.x)).toNat) := by
  rw [fr_cn h hj ((lk_tri h hj).1 h2)]
  obtain ⟨g1, g2, g3⟩ := cn_lk h hi
  have h3 := (lk_tri h hi).1 h1
  unfold isE at h3
  rcases h3 with h3 | h3 | h3
  · rw [h3, g1]
    simp only [Prod.mk.injEq] at h3
    rw [h3.1, h3.2]
  · rw [h3, g2]
    simp only [Prod.mk.injEq] at h3
    rw [h3.1, h3.2]
    exact (inC_rot _ _ _ _).symm
  · rw [h3, g3]
    simp only [Prod.mk.injEq] at h3
    rw [h3.1, h3.2]
    exact inC_rot _ _ _ _
theorem fr_rng {l : List Pn} {ts : List T3} (h : NetR l ts) {e : Pn} {j : Nat} (hj : j < ts.length) (he : isE (tr ts j) (e.y, e.x)) : 0 ≤ frT (tr ts j) e ∧ frT (tr ts j) e < l.length := by
  rw [fr_cn h hj he]
  have h3 := (trK_0 (h.all j hj)).1
  unfold inR at h3
  obtain ⟨g1, g2, g3⟩ := cn_lk h hj
  unfold isE at he
  rcases he with he | he | he
  · rw [he, g1]; omega
  · rw [he, g2]; omega
  · rw [he, g3]; omega
theorem cn_rng {l : List Pn} {ts : List T3} (h : NetR l ts) {e : IE} (he : lk (lfA ts) e ≠ -1) : 0 ≤ lk (cnA ts) e ∧ lk (cnA ts) e < l.length := by
  have h2 : e ∈ (lfA ts).map (·.1) := Classical.not_not.1 fun h2 => he ((lk_no h).2 h2)
  obtain ⟨j, hj, h3, h4⟩ := (lf_tri _).1 (lk_mem h2)
  have h5 := (trK_0 (h.all j hj)).1
  unfold inR at h5
  obtain ⟨g1, g2, g3⟩ := cn_lk h hj
  unfold isE at h4
  simp only at h4
  rcases h4 with he | he | he
  · rw [he, g1]; omega
  · rw [he, g2]; omega
  · rw [he, g3]; omega
theorem sgn_pos1 {n : Int} (h : 0 < n) : sgn n = 1 := by unfold sgn; rw [if_neg (by omega), if_neg (by omega)]
theorem inC_le {a b c d : Pn} (h : 0 < cr a b c) (h2 : ¬ 0 < inC a b c d) : inD a b c d ≤ 0 := by
  unfold inC at h2
  rw [sgn_pos1 h, Int.mul_one] at h2
  apply Classical.byContradiction
  intro h3
  rw [sgn_pos1 (by omega)] at h2
  exact h2 (by decide)
theorem inC_ge {a b c d : Pn} (h : 0 < cr a b c) (h2 : inD a b c d ≤ 0) : inC a b c d ≤ 0 := by
  unfold inC
  rw [sgn_pos1 h, Int.mul_one]
  unfold sgn
  split
  · decide
  · split
    · decide
    · omega
theorem tri_cr {l : List Pn} {ts : List T3} (h : NetR l ts) {j : Nat} (hj : j < ts.length) : 0 < cr (pt l (tr ts j).1.toNat) (pt l (tr ts j).2.1.toNat) (pt l (tr ts j).2.2.toNat) := trS_pos.1 (trK_0 (h.all j hj)).2.2.1
theorem ed3_is {l : List Pn} {ts : List T3} (h : NetR l ts) {j : Nat} (hj : j < ts.length) {e : Ed} (he : e ∈ ed3 (tN (tr ts j))) : isE (tr ts j) ((e.1 : Int), (e.2 : Int)) := by
  have h5 := (trK_0 (h.all j hj)).1
  unfold inR at h5
  unfold ed3 tN at he
  simp only [List.mem_cons, List.not_mem_nil, or_false] at he
  unfold isE
  simp only [Prod.mk.injEq]
  rcases he with rfl | rfl | rfl
  · left; simp only; omega
  · right; left; simp only; omega
  · right; right; simp only; omega
theorem il_legal {l : List Pn} {ts : List T3} (h : NetR l ts) (hno : ∀ j, j < (edL ts).length → ilB l ts (pt (edL ts) j) = false) : Legal l (ts.map tN) := by
  have hall : ∀ x : Pn, x ∈ edL ts → ilB l ts x = false := fun x hx => by
    obtain ⟨k, hk, rfl⟩ := List.getElem_of_mem hx
    have e1 : pt (edL ts) k = (edL ts)[k] := by
      unfold pt
      rw [List.getD_eq_getElem?_getD, List.getElem?_eq_getElem hk]
      rfl
    rw [← e1]
    exact hno k hk
  intro t ht t' ht' e c d he he' h1 h2 h3 h4
  obtain ⟨j, hj, rfl⟩ := tr_of ht
  obtain ⟨j', hj', rfl⟩ := tr_of ht'
  have i1 := ed3_is h hj he
  have i2 := ed3_is h hj' he'
  have i3 := ed3_is h hj h1
  have i4 := ed3_is h hj' h3
  have c1 : lk (cnA ts) ((e.1 : Int), (e.2 : Int)) = (c : Int) := cn_third h hj i1 i3
  have c2 : lk (cnA ts) ((e.2 : Int), (e.1 : Int)) = (d : Int) := cn_third h hj' i2 i4
  have l1 : lk (lfA ts) ((e.1 : Int), (e.2 : Int)) = j := (lk_tri h hj).2 i1
  have l2 : lk (lfA ts) ((e.2 : Int), (e.1 : Int)) = j' := (lk_tri h hj').2 i2
  have hne : e.1 ≠ e.2 := fun hh => lf_ne h (p := (((e.1 : Int), (e.2 : Int)), (j : Int))) ((lf_tri _).2 ⟨j, hj, rfl, i1⟩) (by simp only; omega)
  -- the triangle turns to the left from each of its edges on
  have hcr : ∀ (j : Nat) (hj : j < ts.length) (a b c : Nat), isE (tr ts j) ((a : Int), (b : Int)) → isE (tr ts j) ((b : Int), (c : Int)) → 0 < cr (pt l a) (pt l b) (pt l c) := fun j hj a b c h1 h2 => by
    have h0 := tri_cr h hj
    have n0 := tri_ne h hj
    have h5 := (trK_0 (h.all j hj)).1
    unfold inR at h5
    have ha : ∀ {x : Nat} {y : Int}, (x : Int) = y → y.toNat = x := fun h => by omega
    unfold isE at h1 h2
    simp only [Prod.mk.injEq] at h1 h2
    rcases h1 with ⟨e1, e2⟩ | ⟨e1, e2⟩ | ⟨e1, e2⟩
    · have e3 : (c : Int) = (tr ts j).2.2 := by omega
      rw [ha e1, ha e2, ha e3] at h0
      exact h0
    · have e3 : (c : Int) = (tr ts j).1 := by omega
      rw [ha e1, ha e2, ha e3] at h0
      rw [cr_rot]
      exact h0
    · have e3 : (c : Int) = (tr ts j).2.1 := by omega
      rw [ha e1, ha e2, ha e3] at h0
      rw [← cr_rot]
      exact h0
  have d1 := hcr j hj _ _ _ i1 i3
  have d2 := hcr j' hj' _ _ _ i2 i4
  rcases Nat.lt_or_gt_of_ne hne with hlt | hlt
  · have hb := hall ⟨e.1, e.2⟩ ((edL_mem h).2 ⟨by simp only; omega, .inl (by simp only; omega)⟩)
    rw [ilB_3 (by simp only; omega) (by simp only; omega)] at hb
    have hb := of_decide_eq_false hb
    simp only at hb
    rw [c1, c2] at hb
    simp only [Int.toNat_natCast] at hb
    exact inC_le d1 hb
  · have hb := hall ⟨e.2, e.1⟩ ((edL_mem h).2 ⟨by simp only; omega, .inl (by simp only; omega)⟩)
    rw [ilB_3 (by simp only; omega) (by simp only; omega)] at hb
    have hb := of_decide_eq_false hb
    simp only at hb
    rw [c1, c2] at hb
    simp only [Int.toNat_natCast] at hb
    have := inC_le d2 hb
    rw [← inD_ops]
    exact this
theorem il_empty {l : List Pn} {ts : List T3} (h : NetR l ts) (hno : ∀ j, j < (edL ts).length → ilB l ts (pt (edL ts) j) = false) {i k : Nat} (hi : i < ts.length) (hk : k < l.length) : inC (pt l (tr ts i).1.toNat) (pt l (tr ts i).2.1.toNat) (pt l (tr ts i).2.2.toNat) (pt l k) ≤ 0 :=
  inC_ge (tri_cr h hi) (h.net.empty (il_legal h hno) _ (tr_mem hi) k hk)
end Go.Me
end
/- The small memory: 'm[k] = v' in two halves (an entry first, then what is put into it). -/
section
set_option linter.unusedSimpArgs false
set_option linter.unusedVariables false
namespace Go
open Go.RowKit
namespace Ab
section
variable {P : Program} {t : T} {m : Mem} {dst : Option Tmp} {ty rt kt et : TypeId} {pos : String} {after : Array Edge} {guard : Option (Nat × Bool)} {x y z : Operand} {b : Nat} {es : Array MapEntry} {clk : Nat} {ez : Nat} {cs : List Value} {isk : Value → Prop} {kv v : Value}
theorem OW.entN (K : MKey P kt isk) (hx : t.ev x = .map (some b)) (hy : t.ev y = kv) (hu : P.underlying ty = some (.map kt et)) (hb : m.at b = some (@Blk.mk cs true ez ⟨some (.map es clk)⟩)) (hk : isk kv) (hks : ∀ e ∈ es.toList, isk e.key) (hkf : flat kv = true) (hvf : flat v = true)
    (hno : ∀ e ∈ es.toList, e.key ≠ kv) (hz : ∀ w, (zeroValue et).run P w = .ok v w) :
    OW P ⟨dst, .mapEntry ty x y, rt, pos, after, guard⟩ t m (.tuple #[v, .int .i64 clk]) (m.set b (some (@Blk.mk [] true ez ⟨some (.map (es.push ⟨kv, v, clk⟩) (clk + 1))⟩))) := by
  intro E ρ a w ht hst
  obtain ⟨pl, hp, he, hh⟩ := map_at ht hst.mem (Same.refl _ _ _) hx hb
  have hye : a.eval y = kv := (hy ▸ ht.ev y).of_flat hkf
  rcases K.find w kv hk es.toList hks with ⟨h1, _⟩ | ⟨j, e, h1, h2, h3⟩
  · obtain ⟨s1, s2⟩ := MapKept.heap_set (o' := .map (es.push ⟨kv, v, clk⟩) (clk + 1)) hh
    refine ⟨.tuple #[v, .int .i64 clk], { w with heap := w.heap.setIfInBounds pl.blk (.map (es.push ⟨kv, v, clk⟩) (clk + 1)) }, ρ, .inl ?_, .refl _, .tuple rfl (fun i h h' => ?_), hst.setO (oc := .map (es.push ⟨kv, v, clk⟩) (clk + 1)) hb rfl hp (by simp) ⟨rfl, rfl, rfl⟩ s1 s2 (by simp) rfl rfl ⟨rfl, Nat.le_refl _⟩⟩
    · simp only [execOp, Instr.mapEntry, he, hye, Sem.run_bind, run_und hu, Result.andThen_ok, MapKept.run_getObj_map hh, Sem.run_pure, K.check w _ kv hk, h1, hz, MapKept.run_setObj_map _ hh, goInt]
    · match i, h with
      | 0, _ => exact .flat hvf
      | 1, _ => exact .scal rfl
      | i + 2, h => exact absurd h (by simp)
  · exact absurd h3 (hno e (List.mem_of_getElem? h2))
theorem OW.entS (j : Nat) {e0 : MapEntry} (hx : t.ev x = .map (some b)) (hy : t.ev y = .int .i64 (e0.born : Nat)) (hz : t.ev z = v) (hb : m.at b = some (@Blk.mk cs true ez ⟨some (.map es clk)⟩)) (hvf : flat v = true) (hn : (es.toList.map (·.born)).Nodup) (hj : es.toList[j]? = some e0) :
    OW P ⟨dst, .entryStore ty x y z, rt, pos, after, guard⟩ t m undef (m.set b (some (@Blk.mk [] true ez ⟨some (.map (es.modify j fun e => { e with val := v }) clk)⟩))) := by
  intro E ρ a w ht hst
  obtain ⟨pl, hp, he, hh⟩ := map_at ht hst.mem (Same.refl _ _ _) hx hb
  have hye : a.eval y = .int .i64 (e0.born : Nat) := (hy ▸ ht.ev y).of_flat rfl
  have hze : a.eval z = v := (hz ▸ ht.ev z).of_flat hvf
  have hidx : es.findIdx? (fun e => ((e.born : Nat) : Int) == ((e0.born : Nat) : Int)) = some j := by
    rw [Go.WideElems.findIdx_arr]
    exact Go.WideElems.findIdx_born hn hj
  obtain ⟨s1, s2⟩ := MapKept.heap_set (o' := .map (es.modify j fun e => { e with val := v }) clk) hh
  refine ⟨undef, { w with heap := w.heap.setIfInBounds pl.blk (.map (es.modify j fun e => { e with val := v }) clk) }, ρ, .inr ⟨?_, rfl⟩, .refl _, .undef, hst.setO (oc := .map (es.modify j fun e => { e with val := v }) clk) hb rfl hp (by simp) ⟨rfl, rfl, rfl⟩ s1 s2 (by simp) rfl rfl ⟨rfl, Nat.le_refl _⟩⟩
  simp only [execOp, Instr.entryStore, he, hye, hze, Sem.run_bind, Result.andThen_ok, MapKept.run_getObj_map hh, Sem.run_pure, asInt, asIntOf, hidx, MapKept.run_setObj_map _ hh]
end
section
variable {κ : Type} {enc : κ → Value} {ok : κ → Prop} {P : Program} {t : T} {m : Mem} {dst : Option Tmp} {ty rt kt et : TypeId} {pos : String} {after : Array Edge} {guard : Option (Nat × Bool)} {x y z : Operand} {b : Nat} {l : List (κ × Value)} {k : κ} {v : Value}
theorem OW.mentN (K : KEnc enc P kt ok) (hk0 : ok k) (hl0 : ∀ p ∈ l, ok p.1) (hx : t.ev x = .map (some b)) (hy : t.ev y = enc k) (hu : P.underlying ty = some (.map kt et)) (hb : m.at b = some (mpL enc l)) (hm : k ∉ l.map (·.1)) (hz : ∀ w, (zeroValue et).run P w = .ok v w) (hvf : flat v = true) :
    OW P ⟨dst, .mapEntry ty x y, rt, pos, after, guard⟩ t m (.tuple #[v, .int .i64 l.length]) (m.set b (some (mpL enc (l ++ [(k, v)])))) := by
  obtain ⟨q, Kq, hq⟩ := K.isk
  have := OW.entN (dst := dst) (rt := rt) (pos := pos) (after := after) (guard := guard) Kq hx hy hu hb (hq k hk0) (fun e he => by obtain ⟨i, p, hpm, rfl⟩ := mpE_mem enc he; exact hq p.1 (hl0 p (List.mem_of_getElem? hpm))) (K.fl k) hvf
    (fun e he hk => by obtain ⟨i, p, hp, rfl⟩ := mpE_mem enc he; exact hm (List.mem_map.2 ⟨p, List.mem_of_getElem? hp, K.inj _ _ hk⟩)) hz
  rw [mpE_snoc] at this
  have e : l.length + 1 = (l ++ [(k, v)]).length := by simp
  rw [e] at this
  exact this
theorem mpE_born (l : List (κ × Value)) : ((mpE enc l).toList.map (·.born)).Nodup := by
  have h : (mpE enc l).toList.map (·.born) = List.range l.length := by
    refine List.ext_getElem? fun i => ?_
    rw [List.getElem?_map, mpE_get]
    by_cases hi : i < l.length
    · rw [List.getElem?_eq_getElem hi, List.getElem?_range hi]
      rfl
    · rw [List.getElem?_eq_none (by omega), List.getElem?_eq_none (by rw [List.length_range]; omega)]
      rfl
  rw [h]
  exact List.nodup_range
theorem mpE_put (l : List (κ × Value)) (k : κ) (v0 v : Value) : (mpE enc (l ++ [(k, v0)])).modify l.length (fun e => { e with val := v }) = mpE enc (l ++ [(k, v)]) := by
  apply Array.ext_getElem?
  intro i
  rw [Array.getElem?_modify]
  have g1 := mpE_get enc (l ++ [(k, v0)]) i
  have g2 := mpE_get enc (l ++ [(k, v)]) i
  rw [Array.getElem?_toList] at g1 g2
  rw [g1, g2]
  by_cases hj : l.length = i
  · subst hj
    rw [if_pos rfl, List.getElem?_append_right (Nat.le_refl _), List.getElem?_append_right (Nat.le_refl _), Nat.sub_self]
    rfl
  · rw [if_neg hj]
    by_cases hi : i < l.length
    · rw [List.getElem?_append_left hi, List.getElem?_append_left hi]
    · rw [List.getElem?_eq_none (by simp; omega), List.getElem?_eq_none (by simp; omega)]
theorem OW.mentS {v0 : Value} (hx : t.ev x = .map (some b)) (hy : t.ev y = .int .i64 l.length) (hz : t.ev z = v) (hb : m.at b = some (mpL enc (l ++ [(k, v0)]))) (hvf : flat v = true) :
    OW P ⟨dst, .entryStore ty x y z, rt, pos, after, guard⟩ t m undef (m.set b (some (mpL enc (l ++ [(k, v)])))) := by
  have := OW.entS (P := P) (dst := dst) (ty := ty) (rt := rt) (pos := pos) (after := after) (guard := guard) (e0 := ⟨enc k, v0, l.length⟩) l.length hx hy hz hb hvf (mpE_born _) (by rw [mpE_get, List.getElem?_append_right (Nat.le_refl _), Nat.sub_self]; rfl)
  rw [mpE_put] at this
  have e : (l ++ [(k, v0)]).length = (l ++ [(k, v)]).length := by simp
  rw [e] at this
  exact this
end
section
variable {P : Program} {E : Env} {l : List Oper} {bits : Array Nat} {n : Nat} {Q : Post} {m0 : Mem} {ops : List Oper} {t : T} {m : Mem} {sps : List Sp} {v : Value}
theorem AF.me {dst : Option Tmp} {ty rt : TypeId} {x y : Operand} {pos : String} {after : Array Edge} {guard : Option (Nat × Bool)} {b' : Nat} {zz : Blk} (hx : (onlyF (Oper.looksAt l.toArray ⟨dst, .mapEntry ty x y, rt, pos, after, guard⟩) 0 t).ev x = .map (some b'))
    (h : SW P E l.toArray ⟨dst, .mapEntry ty x y, rt, pos, after, guard⟩ (onlyF (Oper.looksAt l.toArray ⟨dst, .mapEntry ty x y, rt, pos, after, guard⟩) 0 t) (maskF (vis bits m0.length (own0 m0) sps sps.length (b' + 3)) (some b') 0 m) v ((maskF (vis bits m0.length (own0 m0) sps sps.length (b' + 3)) (some b') 0 m).set b' (some zz))) (hz : zz.own = true)
    (hr : AF P E l bits n Q m0 ops (t.put dst v) (m.set b' (some zz)) (sps ++ [(some b', 0, b' + 3)])) : AF P E l bits n Q m0 (⟨dst, .mapEntry ty x y, rt, pos, after, guard⟩ :: ops) t m sps := AF.set (b' + 3) h hz hr
theorem AF.es {dst : Option Tmp} {ty rt : TypeId} {x y z : Operand} {pos : String} {after : Array Edge} {guard : Option (Nat × Bool)} {b' : Nat} {zz : Blk} (hx : (onlyF (Oper.looksAt l.toArray ⟨dst, .entryStore ty x y z, rt, pos, after, guard⟩) 0 t).ev x = .map (some b'))
    (h : SW P E l.toArray ⟨dst, .entryStore ty x y z, rt, pos, after, guard⟩ (onlyF (Oper.looksAt l.toArray ⟨dst, .entryStore ty x y z, rt, pos, after, guard⟩) 0 t) (maskF (vis bits m0.length (own0 m0) sps sps.length (b' + 3)) (some b') 0 m) v ((maskF (vis bits m0.length (own0 m0) sps sps.length (b' + 3)) (some b') 0 m).set b' (some zz))) (hz : zz.own = true)
    (hr : AF P E l bits n Q m0 ops (t.put dst v) (m.set b' (some zz)) (sps ++ [(some b', 0, b' + 3)])) : AF P E l bits n Q m0 (⟨dst, .entryStore ty x y z, rt, pos, after, guard⟩ :: ops) t m sps := AF.set (b' + 3) h hz hr
end
end Ab
end Go
end
