/- Chapter 6 in plain Lean: a balanced family of edges that all have the points at their left crosses each upright line equally often. Points have different x here. -/
import Derived.Test.YtmohcmghbfhdlaaGreatRb
import Derived.Test.YtmohcmghbfhdlaaGreatQe
import Derived.Test.YtmohcmghbfhdlaaGreatQq
section
set_option linter.unusedSimpArgs false
set_option linter.unusedVariables false
namespace Go.Me
theorem wedge_id {a b a' b' v q : Pn} (hv1 : v = a ∨ v = b) (hv2 : v = a' ∨ v = b') :
    (a.x - b.x) * cr a' b' q + (b'.x - a'.x) * cr a b q = (q.x - v.x) * ((b'.x - a'.x) * (a.y - b.y) - (b'.y - a'.y) * (a.x - b.x)) := by
  rcases hv1 with rfl | rfl <;> rcases hv2 with h | h <;> subst h <;> unfold cr <;> grind
theorem wedge {a b a' b' v m M q : Pn} (h1 : b.x < a.x) (h2 : a'.x < b'.x) (hv1 : v = a ∨ v = b) (hv2 : v = a' ∨ v = b') (hm : m.x < v.x) (hM : v.x < M.x)
    (s1 : 0 ≤ cr a b m) (s2 : 0 ≤ cr a b M) (s3 : 0 ≤ cr a b q) (s4 : 0 ≤ cr a' b' m) (s5 : 0 ≤ cr a' b' M) (s6 : 0 ≤ cr a' b' q) : cr a b q = 0 := by
  have e1 := wedge_id (q := m) hv1 hv2
  have e2 := wedge_id (q := M) hv1 hv2
  have e3 := wedge_id (q := q) hv1 hv2
  generalize (b'.x - a'.x) * (a.y - b.y) - (b'.y - a'.y) * (a.x - b.x) = K at *
  have p1 := Int.mul_nonneg (show 0 ≤ a.x - b.x by omega) s4
  have p2 := Int.mul_nonneg (show 0 ≤ b'.x - a'.x by omega) s1
  have p3 := Int.mul_nonneg (show 0 ≤ a.x - b.x by omega) s5
  have p4 := Int.mul_nonneg (show 0 ≤ b'.x - a'.x by omega) s2
  have p5 := Int.mul_nonneg (show 0 ≤ a.x - b.x by omega) s6
  have p6 := Int.mul_nonneg (show 0 ≤ b'.x - a'.x by omega) s3
  have k1 : K ≤ 0 := by
    apply Classical.byContradiction
    intro hk
    have := Int.mul_neg_of_neg_of_pos (show m.x - v.x < 0 by omega) (show 0 < K by omega)
    omega
  have k2 : 0 ≤ K := by
    apply Classical.byContradiction
    intro hk
    have := Int.mul_neg_of_pos_of_neg (show 0 < M.x - v.x by omega) (show K < 0 by omega)
    omega
  have k0 : K = 0 := by omega
  rw [k0, Int.mul_zero] at e3
  have z : (b'.x - a'.x) * cr a b q = 0 := by omega
  rcases Int.mul_eq_zero.1 z with h | h
  · omega
  · exact h
section
variable (P : Nat → Pn)
def sp (c : Int) (e : Ed) : Int := if (P e.2).x ≤ c ∧ c < (P e.1).x then 1 else 0
def U (S : List Ed) (c : Int) : Int := su S (sp P c)
def Lo (S : List Ed) (c : Int) : Int := su S fun e => sp P c (sw e)
structure Sup (n : Nat) (e : Ed) : Prop where
  l1 : e.1 < n
  l2 : e.2 < n
  ne : e.1 ≠ e.2
  at_ : ∀ q, q < n → 0 ≤ cr (P e.1) (P e.2) (P q)
structure Gen (n : Nat) : Prop where
  inj : ∀ i j, i < n → j < n → (P i).x = (P j).x → i = j
  nf : ∃ i j k, i < n ∧ j < n ∧ k < n ∧ cr (P i) (P j) (P k) ≠ 0
end
section
variable {P : Nat → Pn} {n : Nat} {S : List Ed}
theorem U_Lo (hb : Bal S) (c : Int) : U P S c = Lo P S c := by
  have h := hb fun v => if c < (P v).x then 1 else 0
  have e : su S (fun e => (if c < (P e.1).x then (1 : Int) else 0) - if c < (P e.2).x then (1 : Int) else 0) = U P S c - Lo P S c := by
    unfold U Lo
    rw [← su_sub]
    refine su_congr fun e _ => ?_
    show _ = (if (P e.2).x ≤ c ∧ c < (P e.1).x then (1 : Int) else 0) - if (P e.1).x ≤ c ∧ c < (P e.2).x then 1 else 0
    by_cases h1 : c < (P e.1).x <;> by_cases h2 : c < (P e.2).x
    · rw [if_pos h1, if_pos h2, if_neg (by omega), if_neg (by omega)]; rfl
    · rw [if_pos h1, if_neg h2, if_pos (by omega), if_neg (by omega)]
    · rw [if_neg h1, if_pos h2, if_neg (by omega), if_pos (by omega)]
    · rw [if_neg h1, if_neg h2, if_neg (by omega), if_neg (by omega)]
  rw [e] at h
  omega
theorem U_step (hg : Gen P n) (hb : Bal S) (hs : ∀ e ∈ S, Sup P n e) {c : Int} {m M : Nat} (hm : m < n) (hM : M < n) (h1 : (P m).x ≤ c) (h2 : c + 1 < (P M).x) : U P S c = U P S (c + 1) := by
  let f : Nat → Int := fun v => if (P v).x = c + 1 then 1 else 0
  have hb' := hb f
  have e : U P S c - U P S (c + 1) = su S fun e => if (P e.2).x < (P e.1).x then f e.1 - f e.2 else 0 := by
    unfold U
    rw [← su_sub]
    refine su_congr fun e _ => ?_
    show (if (P e.2).x ≤ c ∧ c < (P e.1).x then (1 : Int) else 0) - (if (P e.2).x ≤ c + 1 ∧ c + 1 < (P e.1).x then 1 else 0) = if (P e.2).x < (P e.1).x then (if (P e.1).x = c + 1 then 1 else 0) - (if (P e.2).x = c + 1 then 1 else 0) else 0
    repeat' split
    all_goals omega
  by_cases hlo : ∃ e ∈ S, (P e.1).x < (P e.2).x ∧ ((P e.1).x = c + 1 ∨ (P e.2).x = c + 1)
  · have z : su S (fun e => if (P e.2).x < (P e.1).x then f e.1 - f e.2 else 0) = 0 := by
      rw [su_congr (g := fun _ => 0) fun e he => ?_]
      · exact su_zero S
      · split
        · rename_i hu
          by_cases hv : (P e.1).x = c + 1 ∨ (P e.2).x = c + 1
          · exfalso
            obtain ⟨e', he', hl, hv'⟩ := hlo
            have s := hs e he
            have s' := hs e' he'
            obtain ⟨i, j, k, hi, hj, hk, hne⟩ := hg.nf
            have vs : ∃ v, v < n ∧ (P v).x = c + 1 ∧ (v = e.1 ∨ v = e.2) := by
              rcases hv with h | h
              · exact ⟨e.1, s.l1, h, .inl rfl⟩
              · exact ⟨e.2, s.l2, h, .inr rfl⟩
            obtain ⟨v, hvn, hvx, hv1⟩ := vs
            have hv2 : v = e'.1 ∨ v = e'.2 := by
              rcases hv' with h | h
              · exact .inl (hg.inj _ _ hvn s'.l1 (by omega))
              · exact .inr (hg.inj _ _ hvn s'.l2 (by omega))
            have z : ∀ q, q < n → cr (P e.1) (P e.2) (P q) = 0 := fun q hq =>
              wedge (v := P v) (m := P m) (M := P M) hu hl (hv1.imp (congrArg P) (congrArg P)) (hv2.imp (congrArg P) (congrArg P)) (by omega) (by omega) (s.at_ m hm) (s.at_ M hM) (s.at_ q hq) (s'.at_ m hm) (s'.at_ M hM) (s'.at_ q hq)
            refine hne (flat_of (a := P e.1) (b := P e.2) (fun h => ?_) (z i hi) (z j hj) (z k hk))
            rw [h] at hu
            omega
          · show (if (P e.1).x = c + 1 then (1 : Int) else 0) - (if (P e.2).x = c + 1 then 1 else 0) = 0
            rw [if_neg fun h => hv (.inl h), if_neg fun h => hv (.inr h)]
            rfl
        · rfl
    omega
  · have z : su S (fun e => if (P e.2).x < (P e.1).x then f e.1 - f e.2 else 0) = su S fun e => f e.1 - f e.2 := by
      refine su_congr fun e he => ?_
      split
      · rfl
      · rename_i hu
        have s := hs e he
        have hx : (P e.1).x ≠ (P e.2).x := fun h => s.ne (hg.inj _ _ s.l1 s.l2 h)
        have hv : ¬ ((P e.1).x = c + 1 ∨ (P e.2).x = c + 1) := fun h => hlo ⟨e, he, by omega, h⟩
        show 0 = (if (P e.1).x = c + 1 then (1 : Int) else 0) - (if (P e.2).x = c + 1 then 1 else 0)
        rw [if_neg fun h => hv (.inl h), if_neg fun h => hv (.inr h)]
        rfl
    omega
theorem U_const (hg : Gen P n) (hb : Bal S) (hs : ∀ e ∈ S, Sup P n e) {m M : Nat} (hm : m < n) (hM : M < n) : ∀ (k : Nat), (P m).x + k < (P M).x → U P S ((P m).x + k) = U P S (P m).x
  | 0, _ => by simp
  | k + 1, h => by
    have ih := U_const hg hb hs hm hM k (by omega)
    have := U_step (c := (P m).x + k) hg hb hs hm hM (by omega) (by omega)
    rw [← ih, this]
    congr 1
    omega
theorem U_eq (hg : Gen P n) (hb : Bal S) (hs : ∀ e ∈ S, Sup P n e) {m M : Nat} (hm : m < n) (hM : M < n) {c : Int} (h1 : (P m).x ≤ c) (h2 : c < (P M).x) : U P S c = U P S (P m).x := by
  obtain ⟨k, rfl⟩ : ∃ k : Nat, c = (P m).x + k := ⟨(c - (P m).x).toNat, by omega⟩
  exact U_const hg hb hs hm hM k h2
end
end Go.Me
end
/- Chapter 6 in plain Lean: two such families: what they enclose goes as how often they go round. -/
section
set_option linter.unusedSimpArgs false
set_option linter.unusedVariables false
namespace Go.Me
def gN (a b : Pn) (c : Int) : Int := a.y * (2 * (c - b.x) + 1) + b.y * (2 * (a.x - c) - 1)
theorem line_eq {a b a' b' : Pn} (c : Int) (h1 : cr a b a' = 0) (h2 : cr a b b' = 0) : gN a b c * (a'.x - b'.x) = gN a' b' c * (a.x - b.x) := by
  unfold gN cr at *
  grind
theorem line_of {a b a' b' : Pn} {c : Int} (h1 : b.x ≤ c) (h2 : c < a.x) (h1' : b'.x ≤ c) (h2' : c < a'.x) (s1 : 0 ≤ cr a b a') (s2 : 0 ≤ cr a b b') (s3 : 0 ≤ cr a' b' a) (s4 : 0 ≤ cr a' b' b) : cr a b a' = 0 ∧ cr a b b' = 0 := by
  -- the difference of both lines' heights, times both lengths
  let al : Int := (a.x - b.x) * (a'.y - b'.y) - (a'.x - b'.x) * (a.y - b.y)
  let be : Int := (a.x - b.x) * (b'.y * a'.x - a'.y * b'.x) - (a'.x - b'.x) * (b.y * a.x - a.y * b.x)
  have e1 : al * a.x + be = (a.x - b.x) * cr a' b' a := by simp only [al, be]; unfold cr; grind
  have e2 : al * b.x + be = (a.x - b.x) * cr a' b' b := by simp only [al, be]; unfold cr; grind
  have e3 : al * a'.x + be = -((a'.x - b'.x) * cr a b a') := by simp only [al, be]; unfold cr; grind
  have e4 : al * b'.x + be = -((a'.x - b'.x) * cr a b b') := by simp only [al, be]; unfold cr; grind
  have p1 := Int.mul_nonneg (show 0 ≤ a.x - b.x by omega) s3
  have p2 := Int.mul_nonneg (show 0 ≤ a.x - b.x by omega) s4
  have p3 := Int.mul_nonneg (show 0 ≤ a'.x - b'.x by omega) s1
  have p4 := Int.mul_nonneg (show 0 ≤ a'.x - b'.x by omega) s2
  generalize al = al at *
  generalize be = be at *
  have k1 : 0 ≤ al := by
    apply Classical.byContradiction
    intro hk
    have := Int.mul_neg_of_neg_of_pos (show al < 0 by omega) (show 0 < a.x - b'.x by omega)
    rw [Int.mul_sub] at this
    omega
  have k2 : al ≤ 0 := by
    apply Classical.byContradiction
    intro hk
    have := Int.mul_neg_of_pos_of_neg (show 0 < al by omega) (show b.x - a'.x < 0 by omega)
    rw [Int.mul_sub] at this
    omega
  have k0 : al = 0 := by omega
  subst k0
  rw [Int.zero_mul] at e1 e2 e3 e4
  have z1 : (a'.x - b'.x) * cr a b a' = 0 := by omega
  have z2 : (a'.x - b'.x) * cr a b b' = 0 := by omega
  exact ⟨(Int.mul_eq_zero.1 z1).resolve_left (by omega), (Int.mul_eq_zero.1 z2).resolve_left (by omega)⟩
def cols (m : Int) (N : Nat) : List Int := (List.range N).map fun j => m + (j : Nat)
theorem cols_mem {m c : Int} {N : Nat} (h : c ∈ cols m N) : m ≤ c ∧ c < m + N := by
  obtain ⟨j, hj, rfl⟩ := List.mem_map.1 h
  have := List.mem_range.1 hj
  omega
theorem su_tele (m : Int) (h : Int → Int) : ∀ N : Nat, su (cols m N) (fun c => h (c + 1) - h c) = h (m + N) - h m
  | 0 => by simp [cols, su_nil]
  | N + 1 => by
    have e : cols m (N + 1) = cols m N ++ [m + (N : Nat)] := by
      unfold cols
      rw [List.range_succ, List.map_append]
      rfl
    rw [e, su_app, su_tele m h N, su_cons, su_nil]
    rw [show m + ((N + 1 : Nat) : Int) = m + (N : Int) + 1 by omega]
    omega
section
variable (P : Nat → Pn)
def gE (c : Int) (e : Ed) : Int := gN (P e.1) (P e.2) c
def trz (e : Ed) : Int := ((P e.1).x - (P e.2).x) * ((P e.1).y + (P e.2).y)
def tU (S : List Ed) : Int := su S fun e => if (P e.2).x < (P e.1).x then trz P e else 0
end
section
variable {P : Nat → Pn} {n : Nat}
theorem col_sum {m : Int} {N : Nat} {e : Ed} (h1 : m ≤ (P e.2).x) (h2 : (P e.1).x ≤ m + N) (h3 : (P e.2).x < (P e.1).x) : su (cols m N) (fun c => sp P c e * gE P c e) = ((P e.1).x - (P e.2).x) * trz P e := by
  let F : Int → Int := fun c => (P e.1).y * ((c - (P e.2).x) * (c - (P e.2).x)) - (P e.2).y * (((P e.1).x - c) * ((P e.1).x - c))
  let h : Int → Int := fun c => F (max (P e.2).x (min (P e.1).x c))
  have t := su_tele m h N
  have e0 : h m = F (P e.2).x := by simp only [h]; congr 1; omega
  have e1 : h (m + N) = F (P e.1).x := by simp only [h]; congr 1; omega
  rw [e0, e1] at t
  have ef : F (P e.1).x - F (P e.2).x = ((P e.1).x - (P e.2).x) * trz P e := by simp only [F]; unfold trz; grind
  rw [ef] at t
  rw [← t]
  refine su_congr fun c _ => ?_
  simp only [h]
  unfold sp
  by_cases hc : (P e.2).x ≤ c ∧ c < (P e.1).x
  · rw [if_pos hc, show max (P e.2).x (min (P e.1).x (c + 1)) = c + 1 by omega, show max (P e.2).x (min (P e.1).x c) = c by omega]
    simp only [F]
    unfold gE gN
    grind
  · rw [if_neg hc]
    rcases Int.lt_or_le c (P e.2).x with hl | hl
    · rw [show max (P e.2).x (min (P e.1).x (c + 1)) = (P e.2).x by omega, show max (P e.2).x (min (P e.1).x c) = (P e.2).x by omega]; omega
    · rw [show max (P e.2).x (min (P e.1).x (c + 1)) = (P e.1).x by omega, show max (P e.2).x (min (P e.1).x c) = (P e.1).x by omega]; omega
theorem common (P : Nat → Pn) : ∀ L : List Ed, ∃ (D : Int) (q : Ed → Int), 0 < D ∧ ∀ e ∈ L, (P e.2).x < (P e.1).x → q e * ((P e.1).x - (P e.2).x) = D := by
  intro L
  suffices h : ∃ D : Int, 0 < D ∧ ∀ e ∈ L, (P e.2).x < (P e.1).x → ∃ q, q * ((P e.1).x - (P e.2).x) = D by
    obtain ⟨D, h0, h1⟩ := h
    refine ⟨D, fun e => if h : e ∈ L ∧ (P e.2).x < (P e.1).x then Classical.choose (h1 e h.1 h.2) else 0, h0, fun e he hu => ?_⟩
    simp only [dif_pos (And.intro he hu)]
    exact Classical.choose_spec (h1 e he hu)
  induction L with
  | nil => exact ⟨1, by decide, by simp⟩
  | cons a L ih =>
    obtain ⟨D, h0, h1⟩ := ih
    by_cases hu : (P a.2).x < (P a.1).x
    · refine ⟨D * ((P a.1).x - (P a.2).x), Int.mul_pos h0 (by omega), fun e he hue => ?_⟩
      rcases List.mem_cons.1 he with rfl | he
      · exact ⟨D, rfl⟩
      · obtain ⟨q, hq⟩ := h1 e he hue
        exact ⟨q * ((P a.1).x - (P a.2).x), by rw [← hq]; grind⟩
    · refine ⟨D, h0, fun e he hue => ?_⟩
      rcases List.mem_cons.1 he with rfl | he
      · exact absurd hue hu
      · exact h1 e he hue
theorem sp_01 (c : Int) (e : Ed) : sp P c e = 0 ∨ (sp P c e = 1 ∧ (P e.2).x ≤ c ∧ c < (P e.1).x) := by
  unfold sp
  split
  · rename_i h; exact .inr ⟨rfl, h⟩
  · exact .inl rfl
theorem area_up {S H : List Ed} {m : Nat} {N : Nat} (hS : ∀ e ∈ S, Sup P n e) (hH : ∀ e ∈ H, Sup P n e) (hm : ∀ v, v < n → (P m).x ≤ (P v).x) (hM : ∀ v, v < n → (P v).x ≤ (P m).x + N) {wS wH : Int}
    (kS : ∀ c ∈ cols (P m).x N, U P S c = wS) (kH : ∀ c ∈ cols (P m).x N, U P H c = wH) : wH * tU P S = wS * tU P H := by
  obtain ⟨D, q, hD, hq⟩ := common P (S ++ H)
  -- one family, counted by columns
  have one : ∀ (S H : List Ed) (wH : Int), (∀ e ∈ S, Sup P n e) → (∀ e ∈ S, (P e.2).x < (P e.1).x → q e * ((P e.1).x - (P e.2).x) = D) → (∀ c ∈ cols (P m).x N, U P H c = wH) →
      D * (wH * tU P S) = su S fun e => su H fun e' => su (cols (P m).x N) fun c => sp P c e * sp P c e' * (gE P c e * q e) := by
    intro S H wH hS hq kH
    unfold tU
    rw [← su_mul, ← su_mul]
    refine su_congr fun e he => ?_
    rw [su_comm]
    have s := hS e he
    have e1 : su (cols (P m).x N) (fun c => su H fun e' => sp P c e * sp P c e' * (gE P c e * q e)) = su (cols (P m).x N) fun c => wH * q e * (sp P c e * gE P c e) := by
      refine su_congr fun c hc => ?_
      rw [su_congr (g := fun e' => sp P c e * (gE P c e * q e) * sp P c e') fun e' _ => by grind, su_mul]
      have := kH c hc
      unfold U at this
      rw [show (su H fun e' => sp P c e') = wH from this]
      grind
    rw [e1, su_mul]
    by_cases hu : (P e.2).x < (P e.1).x
    · rw [if_pos hu, col_sum (hm _ s.l2) (hM _ s.l1) hu, ← hq e he hu]
      grind
    · rw [if_neg hu, su_congr (g := fun _ => 0) fun c _ => ?_, su_zero]
      · simp
      · rcases sp_01 (P := P) c e with h | ⟨_, h1, h2⟩
        · rw [h, Int.zero_mul]
        · omega
  have h1 := one S H wH hS (fun e he => hq e (by simp [he])) kH
  have h2 := one H S wS hH (fun e he => hq e (by simp [he])) kS
  rw [su_comm] at h2
  have h3 : (su S fun e => su H fun e' => su (cols (P m).x N) fun c => sp P c e * sp P c e' * (gE P c e * q e)) = su S fun e => su H fun e' => su (cols (P m).x N) fun c => sp P c e' * sp P c e * (gE P c e' * q e') := by
    refine su_congr fun e he => su_congr fun e' he' => su_congr fun c _ => ?_
    rcases sp_01 (P := P) c e with h | ⟨h, q1, q2⟩
    · rw [h]; grind
    · rcases sp_01 (P := P) c e' with h' | ⟨h', q1', q2'⟩
      · rw [h']; grind
      · have s := hS e he
        have s' := hH e' he'
        obtain ⟨z1, z2⟩ := line_of q1 q2 q1' q2' (s.at_ _ s'.l1) (s.at_ _ s'.l2) (s'.at_ _ s.l1) (s'.at_ _ s.l2)
        have le := line_eq c z1 z2
        have d1 := hq e (by simp [he]) (by omega)
        have d2 := hq e' (by simp [he']) (by omega)
        have hk : gE P c e * q e = gE P c e' * q e' := by
          unfold gE
          have hn : ((P e.1).x - (P e.2).x) * ((P e'.1).x - (P e'.2).x) ≠ 0 := Int.mul_ne_zero (by omega) (by omega)
          refine Int.eq_of_mul_eq_mul_right hn ?_
          grind
        rw [h, h', hk]
  have h4 : D * (wH * tU P S) = D * (wS * tU P H) := (h1.trans h3).trans h2.symm
  exact Int.eq_of_mul_eq_mul_left (by omega) h4
end
end Go.Me
end
/- Chapter 6 in plain Lean: what a balanced border encloses, in all. -/
section
set_option linter.unusedSimpArgs false
set_option linter.unusedVariables false
namespace Go.Me
def mr (P : Nat → Pn) : Nat → Pn := fun i => ⟨(P i).x, -(P i).y⟩
theorem cr_mr (P : Nat → Pn) (i j k : Nat) : cr (mr P j) (mr P i) (mr P k) = cr (P i) (P j) (P k) := by unfold cr mr; grind
def ar (P : Nat → Pn) (S : List Ed) : Int := su S fun e => (P e.1).x * (P e.2).y - (P e.1).y * (P e.2).x
section
variable {P : Nat → Pn} {n : Nat} {S : List Ed}
theorem sup_mr {e : Ed} (h : Sup P n e) : Sup (mr P) n (sw e) := ⟨h.l2, h.l1, fun x => h.ne x.symm, fun q hq => by
  show 0 ≤ cr (mr P e.2) (mr P e.1) (mr P q)
  rw [cr_mr]
  exact h.at_ q hq⟩
theorem U_mr (c : Int) : U (mr P) (S.map sw) c = Lo P S c := by
  unfold U Lo
  rw [su_map]
  rfl
theorem ar_tU (hg : Gen P n) (hb : Bal S) (hs : ∀ e ∈ S, Sup P n e) : ar P S = tU P S + tU (mr P) (S.map sw) := by
  have h1 : su S (trz P) = ar P S := by
    have h := hb fun v => (P v).x * (P v).y
    have e : su S (trz P) = su S (fun e => (P e.1).x * (P e.2).y - (P e.1).y * (P e.2).x) + su S fun e => (P e.1).x * (P e.1).y - (P e.2).x * (P e.2).y := by
      rw [← su_add]
      refine su_congr fun e _ => ?_
      unfold trz
      grind
    rw [e]
    unfold ar
    omega
  rw [← h1]
  unfold tU
  rw [su_map, ← su_add]
  refine su_congr fun e he => ?_
  have s := hs e he
  have hx : (P e.1).x ≠ (P e.2).x := fun h => s.ne (hg.inj _ _ s.l1 s.l2 h)
  show _ = (if (P e.2).x < (P e.1).x then trz P e else 0) + if (P e.1).x < (P e.2).x then trz (mr P) (sw e) else 0
  rcases Int.lt_or_le (P e.2).x (P e.1).x with h | h
  · rw [if_pos h, if_neg (by omega)]; omega
  · rw [if_neg (by omega), if_pos (by omega)]
    show trz P e = 0 + ((P e.2).x - (P e.1).x) * (-(P e.2).y + -(P e.1).y)
    unfold trz
    grind
theorem area_w {H : List Ed} (hg : Gen P n) (bS : Bal S) (bH : Bal H) (hS : ∀ e ∈ S, Sup P n e) (hH : ∀ e ∈ H, Sup P n e) {m M : Nat} (hmn : m < n) (hMn : M < n) (hm : ∀ v, v < n → (P m).x ≤ (P v).x) (hM : ∀ v, v < n → (P v).x ≤ (P M).x) :
    U P H (P m).x * ar P S = U P S (P m).x * ar P H := by
  obtain ⟨N, hN⟩ : ∃ N : Nat, (P M).x = (P m).x + N := ⟨((P M).x - (P m).x).toNat, by have := hm M hMn; omega⟩
  have hM' : ∀ v, v < n → (P v).x ≤ (P m).x + N := fun v hv => by have := hM v hv; omega
  have k : ∀ S : List Ed, Bal S → (∀ e ∈ S, Sup P n e) → ∀ c ∈ cols (P m).x N, U P S c = U P S (P m).x := fun S b h c hc => by
    obtain ⟨h1, h2⟩ := cols_mem hc
    exact U_eq hg b h hmn hMn h1 (by omega)
  have up := area_up hS hH hm hM' (k S bS hS) (k H bH hH)
  have sm : ∀ S : List Ed, (∀ e ∈ S, Sup P n e) → ∀ e ∈ S.map sw, Sup (mr P) n e := fun S h e he => by
    obtain ⟨x, hx, rfl⟩ := List.mem_map.1 he
    exact sup_mr (h x hx)
  have k' : ∀ S : List Ed, Bal S → (∀ e ∈ S, Sup P n e) → ∀ c ∈ cols (mr P m).x N, U (mr P) (S.map sw) c = U P S (P m).x := fun S b h c hc => by
    rw [U_mr, ← U_Lo b]
    exact k S b h c hc
  have lo := area_up (P := mr P) (sm S hS) (sm H hH) hm hM' (k' S bS hS) (k' H bH hH)
  rw [ar_tU hg bS hS, ar_tU hg bH hH, Int.mul_add, Int.mul_add, up, lo]
end
end Go.Me
end
/- Chapter 6 in plain Lean: a right net hangs together, and goes round the hull once. -/
section
set_option linter.unusedSimpArgs false
set_option linter.unusedVariables false
namespace Go.Me
def cyc (h : List Nat) : List Ed := h.zip (h.tail ++ h.take 1)
theorem su_zip_tail (f : Nat → Int) : ∀ (a : Nat) (r : List Nat) (z : Nat), su ((a :: r).zip (r ++ [z])) (fun e => f e.1 - f e.2) = f a - f z
  | a, [], z => by show f a - f z + 0 = _; omega
  | a, b :: r, z => by
    rw [List.cons_append, List.zip_cons_cons, su_cons, su_zip_tail f b r z]
    show f a - f b + (f b - f z) = _
    omega
theorem bal_cyc (h : List Nat) : Bal (cyc h) := fun f => by
  cases h with
  | nil => rfl
  | cons a r =>
    show su ((a :: r).zip (r ++ [a])) _ = 0
    rw [su_zip_tail]
    omega
def shr (B : Int) (l : List Pn) (i : Nat) : Pn := ⟨(2 * B + 1) * (pt l i).x + (pt l i).y, (pt l i).y⟩
theorem cr_shr (B : Int) (l : List Pn) (i j k : Nat) : cr (shr B l i) (shr B l j) (shr B l k) = (2 * B + 1) * cr (pt l i) (pt l j) (pt l k) := by unfold cr shr; grind
structure Net (B : Int) (l : List Pn) (ts : List Tri) (h : List Nat) : Prop where
  bnd : ∀ p ∈ l, -B ≤ p.y ∧ p.y ≤ B
  apart : Apart l
  rng : ∀ t ∈ ts, t.1 < l.length ∧ t.2.1 < l.length ∧ t.2.2 < l.length
  pos : ∀ t ∈ ts, 0 < cr (pt l t.1) (pt l t.2.1) (pt l t.2.2)
  nd : (edT ts).Nodup
  sup : ∀ e ∈ bd (edT ts), ∀ q, q < l.length → 0 ≤ cr (pt l e.1) (pt l e.2) (pt l q)
  ne : ts ≠ []
  hsup : ∀ e ∈ cyc h, e.1 < l.length ∧ e.2 < l.length ∧ e.1 ≠ e.2 ∧ ∀ q, q < l.length → 0 ≤ cr (pt l e.1) (pt l e.2) (pt l q)
  hone : ∃ m, m < l.length ∧ (∀ v, v < l.length → v = m ∨ lexLt (pt l m) (pt l v)) ∧ su (cyc h) (fun e => if e.2 = m then 1 else 0) = 1
  area : su ts (fun t => cr (pt l t.1) (pt l t.2.1) (pt l t.2.2)) = ar (pt l) (cyc h)
  used : ∀ i, i < l.length → ∃ t ∈ ts, i = t.1 ∨ i = t.2.1 ∨ i = t.2.2
section
variable {B : Int} {l : List Pn} {ts : List Tri} {h : List Nat}
theorem edT_sub {A ts : List Tri} (h : A.Sublist ts) : (edT A).Sublist (edT ts) := by
  unfold edT
  induction h with
  | slnil => exact .slnil
  | cons a _ ih => rw [List.flatMap_cons]; exact ih.trans (List.sublist_append_right _ _)
  | cons_cons a _ ih => rw [List.flatMap_cons, List.flatMap_cons]; exact ih.append_left _
theorem edT_mem {ts : List Tri} {e : Ed} : e ∈ edT ts ↔ ∃ t ∈ ts, e = (t.1, t.2.1) ∨ e = (t.2.1, t.2.2) ∨ e = (t.2.2, t.1) := by
  unfold edT
  rw [List.mem_flatMap]
  constructor
  · rintro ⟨t, ht, he⟩
    exact ⟨t, ht, by simpa [ed3] using he⟩
  · rintro ⟨t, ht, he⟩
    exact ⟨t, ht, by simpa [ed3] using he⟩
theorem cr_pos_ne {a b c : Pn} (h : 0 < cr a b c) : a ≠ b ∧ b ≠ c ∧ c ≠ a := by
  refine ⟨fun e => ?_, fun e => ?_, fun e => ?_⟩ <;> subst e <;> unfold cr at h <;> grind
theorem Net.edge (N : Net B l ts h) {e : Ed} (he : e ∈ edT ts) : e.1 < l.length ∧ e.2 < l.length ∧ e.1 ≠ e.2 := by
  obtain ⟨t, ht, hh⟩ := edT_mem.1 he
  obtain ⟨r1, r2, r3⟩ := N.rng t ht
  obtain ⟨n1, n2, n3⟩ := cr_pos_ne (N.pos t ht)
  rcases hh with rfl | rfl | rfl
  · exact ⟨r1, r2, fun e => n1 (congrArg (pt l) e)⟩
  · exact ⟨r2, r3, fun e => n2 (congrArg (pt l) e)⟩
  · exact ⟨r3, r1, fun e => n3 (congrArg (pt l) e)⟩
theorem shr_lt (hb : ∀ p ∈ l, -B ≤ p.y ∧ p.y ≤ B) {i j : Nat} (hi : i < l.length) (hj : j < l.length) (h : lexLt (pt l i) (pt l j)) : (shr B l i).x < (shr B l j).x := by
  have := lex_ph (hb _ (pt_mem hi)) (hb _ (pt_mem hj)) h
  unfold ph at this
  show (2 * B + 1) * (pt l i).x + (pt l i).y < (2 * B + 1) * (pt l j).x + (pt l j).y
  omega
theorem lex_tri {p q : Pn} (h : p ≠ q) : lexLt p q ∨ lexLt q p := by
  unfold lexLt
  have : p.x ≠ q.x ∨ p.y ≠ q.y := by
    apply Classical.byContradiction
    intro hn
    rw [not_or] at hn
    refine h ?_
    cases p; cases q
    simp only [Pn.mk.injEq]
    simp only at hn
    omega
  omega
theorem Net.gen (N : Net B l ts h) : Gen (shr B l) l.length := by
  have hB : 0 ≤ B := by
    obtain ⟨m, hm, _⟩ := N.hone
    have := N.bnd _ (pt_mem hm)
    omega
  refine ⟨fun i j hi hj hx => ?_, ?_⟩
  · apply Classical.byContradiction
    intro hne
    have hp : pt l i ≠ pt l j := fun h => hne (N.apart i j hi hj h)
    rcases lex_tri hp with h | h
    · have := shr_lt N.bnd hi hj h; omega
    · have := shr_lt N.bnd hj hi h; omega
  · obtain ⟨t, r, ht⟩ := List.exists_cons_of_ne_nil N.ne
    have hm : t ∈ ts := by rw [ht]; simp
    obtain ⟨r1, r2, r3⟩ := N.rng t hm
    refine ⟨t.1, t.2.1, t.2.2, r1, r2, r3, ?_⟩
    rw [cr_shr]
    exact Int.mul_ne_zero (by omega) (by have := N.pos t hm; omega)
theorem sup_shr (hB : 0 ≤ B) {e : Ed} (h1 : e.1 < l.length) (h2 : e.2 < l.length) (h3 : e.1 ≠ e.2) (h4 : ∀ q, q < l.length → 0 ≤ cr (pt l e.1) (pt l e.2) (pt l q)) : Sup (shr B l) l.length e :=
  ⟨h1, h2, h3, fun q hq => by rw [cr_shr]; exact Int.mul_nonneg (by omega) (h4 q hq)⟩
theorem ar_shr (B : Int) (l : List Pn) (S : List Ed) : ar (shr B l) S = (2 * B + 1) * ar (pt l) S := by
  unfold ar
  rw [← su_mul]
  refine su_congr fun e _ => ?_
  unfold shr
  grind
theorem ar_tris (P : Nat → Pn) (ts : List Tri) : ar P (edT ts) = su ts fun t => cr (P t.1) (P t.2.1) (P t.2.2) := by
  unfold ar edT
  rw [su_flat]
  refine su_congr fun t _ => ?_
  rw [su_ed3]
  unfold cr
  grind
theorem anti_ar (P : Nat → Pn) : Anti fun e => (P e.1).x * (P e.2).y - (P e.1).y * (P e.2).x := fun e => by
  show (P e.2).x * (P e.1).y - (P e.2).y * (P e.1).x = -((P e.1).x * (P e.2).y - (P e.1).y * (P e.2).x)
  grind
def wnd (B : Int) (l : List Pn) (A : List Tri) (m : Nat) : Int := U (shr B l) (bd (edT A)) (shr B l m).x
theorem Net.wind (N : Net B l ts h) {A : List Tri} (hA : A.Sublist ts) (hc : ∀ e ∈ edT A, sw e ∈ edT ts → sw e ∈ edT A) {m : Nat} (hm : m < l.length) (hmin : ∀ v, v < l.length → v = m ∨ lexLt (pt l m) (pt l v)) (hone : su (cyc h) (fun e => if e.2 = m then 1 else 0) = 1) :
    su A (fun t => cr (pt l t.1) (pt l t.2.1) (pt l t.2.2)) = wnd B l A m * ar (pt l) (cyc h) := by
  have hB : 0 ≤ B := by have := N.bnd _ (pt_mem hm); omega
  have hnd : (edT A).Nodup := by
    refine List.Sublist.nodup ?_ N.nd
    exact edT_sub hA
  have hmn : ∀ v, v < l.length → (shr B l m).x ≤ (shr B l v).x := fun v hv => by
    rcases hmin v hv with rfl | h
    · exact Int.le_refl _
    · exact Int.le_of_lt (shr_lt N.bnd hm hv h)
  -- the greatest one
  obtain ⟨M, hM, hmx⟩ : ∃ M, M < l.length ∧ ∀ v, v < l.length → (shr B l v).x ≤ (shr B l M).x := by
    have key : ∀ k, 0 < k → k ≤ l.length → ∃ M, M < k ∧ ∀ v, v < k → (shr B l v).x ≤ (shr B l M).x := by
      intro k
      induction k with
      | zero => intro h; omega
      | succ k ih =>
        intro _ hk
        rcases Nat.eq_zero_or_pos k with h0 | h0
        · subst h0
          exact ⟨0, by omega, fun v hv => by obtain rfl : v = 0 := by omega
                                             exact Int.le_refl _⟩
        · obtain ⟨M, h1, h2⟩ := ih h0 (by omega)
          rcases Int.le_total (shr B l k).x (shr B l M).x with hx | hx
          · exact ⟨M, by omega, fun v hv => by
              rcases Nat.lt_or_eq_of_le (Nat.le_of_lt_succ hv) with h | rfl
              · exact h2 v h
              · exact hx⟩
          · exact ⟨k, by omega, fun v hv => by
              rcases Nat.lt_or_eq_of_le (Nat.le_of_lt_succ hv) with h | rfl
              · exact Int.le_trans (h2 v h) hx
              · exact Int.le_refl _⟩
    exact key l.length (by omega) (Nat.le_refl _)
  have sA : ∀ e ∈ bd (edT A), Sup (shr B l) l.length e := fun e he => by
    obtain ⟨h1, h2⟩ := bd_mem.1 he
    have h1' : e ∈ edT ts := by
      obtain ⟨t, ht, hh⟩ := edT_mem.1 h1
      exact edT_mem.2 ⟨t, hA.subset ht, hh⟩
    obtain ⟨q1, q2, q3⟩ := N.edge h1'
    exact sup_shr hB q1 q2 q3 (N.sup e (bd_mem.2 ⟨h1', fun h => h2 (hc e h1 h)⟩))
  have sH : ∀ e ∈ cyc h, Sup (shr B l) l.length e := fun e he => by
    obtain ⟨q1, q2, q3, q4⟩ := N.hsup e he
    exact sup_shr hB q1 q2 q3 q4
  have aw := area_w N.gen (bal_bd hnd) (bal_cyc h) sA sH hm hM hmn hmx
  have uH : U (shr B l) (cyc h) (shr B l m).x = 1 := by
    rw [← hone]
    unfold U
    refine su_congr fun e he => ?_
    have s := sH e he
    unfold sp
    have i2 := hmn e.2 s.l2
    have i1 := hmn e.1 s.l1
    by_cases h2 : e.2 = m
    · have : (shr B l m).x ≠ (shr B l e.1).x := fun hx => s.ne ((N.gen.inj m e.1 hm s.l1 hx).symm.trans h2.symm)
      rw [if_pos h2, if_pos ⟨by rw [h2]; exact Int.le_refl _, by omega⟩]
    · have : (shr B l m).x ≠ (shr B l e.2).x := fun hx => h2 (N.gen.inj m e.2 hm s.l2 hx).symm
      rw [if_neg h2, if_neg (by omega)]
  have e1 : ar (shr B l) (bd (edT A)) = (2 * B + 1) * su A fun t => cr (pt l t.1) (pt l t.2.1) (pt l t.2.2) := by
    have := su_bd hnd (anti_ar (shr B l))
    have h2 := ar_tris (pt l) A
    rw [← h2, ← ar_shr]
    exact this.symm
  rw [uH, e1, ar_shr, Int.one_mul] at aw
  refine Int.eq_of_mul_eq_mul_left (show (2 * B + 1) ≠ 0 by omega) ?_
  rw [aw]
  unfold wnd
  grind
theorem Net.conn (N : Net B l ts h) (p : Tri → Bool) (hc : ∀ e ∈ edT ts, ∀ t ∈ ts, ∀ t' ∈ ts, e ∈ ed3 t → sw e ∈ ed3 t' → p t = p t') {t0 : Tri} (h0 : t0 ∈ ts) (hp : p t0 = true) : ∀ t ∈ ts, p t = true := by
  obtain ⟨m, hm, hmin, hone⟩ := N.hone
  have cl : ∀ b : Bool, ∀ e ∈ edT (ts.filter fun t => p t == b), sw e ∈ edT ts → sw e ∈ edT (ts.filter fun t => p t == b) := fun b e he hs => by
    obtain ⟨t, ht, hh⟩ := List.mem_flatMap.1 (show e ∈ (ts.filter fun t => p t == b).flatMap ed3 from he)
    obtain ⟨t', ht', hh'⟩ := List.mem_flatMap.1 (show sw e ∈ ts.flatMap ed3 from hs)
    obtain ⟨q1, q2⟩ := List.mem_filter.1 ht
    have hpp := hc e (List.mem_flatMap.2 ⟨t, q1, hh⟩) t q1 t' ht' hh hh'
    refine List.mem_flatMap.2 ⟨t', List.mem_filter.2 ⟨ht', ?_⟩, hh'⟩
    rw [← hpp]
    exact q2
  let g : Tri → Int := fun t => cr (pt l t.1) (pt l t.2.1) (pt l t.2.2)
  have w : ∀ b : Bool, su (ts.filter fun t => p t == b) g = wnd B l (ts.filter fun t => p t == b) m * ar (pt l) (cyc h) := fun b => N.wind List.filter_sublist (cl b) hm hmin hone
  have tot : su ts g = su (ts.filter fun t => p t == true) g + su (ts.filter fun t => p t == false) g := by
    rw [su_filter ts (fun t => p t == true) g]
    congr 2
    refine List.filter_congr fun t _ => ?_
    cases p t <;> rfl
  have posb : ∀ b : Bool, ∀ t ∈ ts, p t = b → 0 < su (ts.filter fun t => p t == b) g := fun b t ht hb => by
    have hmem : t ∈ ts.filter fun t => p t == b := List.mem_filter.2 ⟨ht, by simp [hb]⟩
    have := su_mem (f := g) (fun x hx => Int.le_of_lt (N.pos x (List.mem_filter.1 hx).1)) hmem
    have hp := N.pos t ht
    simp only [g] at this ⊢
    omega
  intro t ht
  cases hb : p t with
  | true => rfl
  | false =>
    exfalso
    have a1 := posb true t0 h0 hp
    have a2 := posb false t ht hb
    have ha := N.area
    have w1 := w true
    have w2 := w false
    rw [w1] at a1
    rw [w2] at a2
    have ht2 : su ts g = ar (pt l) (cyc h) := ha
    rw [w1, w2] at tot
    generalize ar (pt l) (cyc h) = R at *
    generalize wnd B l (ts.filter fun t => p t == true) m = x at *
    generalize wnd B l (ts.filter fun t => p t == false) m = y at *
    have e : (x + y) * R = R := by rw [Int.add_mul]; omega
    have hR : 0 < R := by
      have h1 : 0 < (x + y) * R := by rw [Int.add_mul]; omega
      rw [e] at h1
      exact h1
    have hx : 0 < x := Int.pos_of_mul_pos_right (by rw [Int.mul_comm]; exact a1) hR
    have hy : 0 < y := Int.pos_of_mul_pos_right (by rw [Int.mul_comm]; exact a2) hR
    have h1 : (x + y) * R = 1 * R := by rw [e, Int.one_mul]
    have := Int.eq_of_mul_eq_mul_right (by omega) h1
    omega
end
end Go.Me
end
/- Chapter 6 in plain Lean: how many triangles a net has: each one is counted at its middle corner. Points have different x here. -/
section
set_option linter.unusedSimpArgs false
set_option linter.unusedVariables false
namespace Go.Me
section
variable (P : Nat → Pn)
end
section
variable {P : Nat → Pn} {n : Nat}
end
end Go.Me
end
/- Chapter 6 in plain Lean: how many triangles a net has. -/
section
set_option linter.unusedSimpArgs false
set_option linter.unusedVariables false
namespace Go.Me
section
variable (P : Nat → Pn) (n : Nat)
end
section
variable {P : Nat → Pn} {n : Nat}
end
end Go.Me
end
/- Chapter 6 in plain Lean: a right net of n points, with h edges on its border, has 2 n - h - 2 triangles. -/
section
set_option linter.unusedSimpArgs false
set_option linter.unusedVariables false
namespace Go.Me
section
variable {P : Nat → Pn} {n : Nat} {ts : List Tri}
end
end Go.Me
end
/- Chapter 6 in plain Lean: a right net of n points, with h edges on its border, has 2 n - h - 2 triangles: the count. -/
section
set_option linter.unusedSimpArgs false
set_option linter.unusedVariables false
namespace Go.Me
section
variable {P : Nat → Pn} {n : Nat} {ts : List Tri}
end
end Go.Me
end
/- Chapter 6 in plain Lean: a right net: its count; no corner lies in a triangle of others. -/
section
set_option linter.unusedSimpArgs false
set_option linter.unusedVariables false
namespace Go.Me
section
variable {B : Int} {l : List Pn} {ts : List Tri} {h : List Nat}
end
section
variable {P : Nat → Pn} {n : Nat} {ts : List Tri}
end
end Go.Me
end
/- Chapter 6: what the program calls a right net is one in the sense of the plain law. -/
section
set_option linter.unusedSimpArgs false
set_option linter.unusedVariables false
namespace Go.Me
open Go.Ab Go.Proofs.YtmohcmghbfhdlaaGreat
set_option maxRecDepth 100000
def tN (t : T3) : Tri := (t.1.toNat, t.2.1.toNat, t.2.2.toNat)
def eN (e : IE) : Ed := (e.1.toNat, e.2.toNat)
def eI (e : Ed) : IE := ((e.1 : Int), (e.2 : Int))
theorem lf_ed {ts : List T3} : ∀ k, k ≤ ts.length → (lf ts k).map (fun p => eN p.1) = edT ((ts.take k).map tN)
  | 0, _ => rfl
  | k + 1, h => by
    rw [lf_succ, take_tr (by omega), List.map_append, List.map_append, List.map_append, lf_ed k (by omega)]
    unfold edT
    rw [List.map_append, List.flatMap_append]
    simp [ed3, tN, eN]
theorem lf_edA (ts : List T3) : (lfA ts).map (fun p => eN p.1) = edT (ts.map tN) := by
  have := lf_ed (ts := ts) ts.length (Nat.le_refl _)
  rwa [List.take_length] at this
theorem ed_iff {l : List Pn} {ts : List T3} (h : NetR l ts) {e : Ed} : e ∈ edT (ts.map tN) ↔ eI e ∈ (lfA ts).map (·.1) := by
  rw [← lf_edA]
  constructor
  · intro hm
    obtain ⟨p, hp, rfl⟩ := List.mem_map.1 hm
    obtain ⟨⟨a, _⟩, ⟨b, _⟩, _⟩ := h.ok.rng p hp
    refine List.mem_map.2 ⟨p, hp, ?_⟩
    unfold eI eN
    exact Prod.ext (by simp only; omega) (by simp only; omega)
  · intro hm
    obtain ⟨p, hp, he⟩ := List.mem_map.1 hm
    refine List.mem_map.2 ⟨p, hp, ?_⟩
    rw [he]
    unfold eI eN
    exact Prod.ext (by simp) (by simp)
theorem ed_nodup {l : List Pn} {ts : List T3} (h : NetR l ts) : (edT (ts.map tN)).Nodup := by
  rw [← lf_edA]
  have h2 : ((lfA ts).map (·.1)).Nodup := h.ok.nd
  unfold List.Nodup at h2 ⊢
  rw [List.pairwise_map] at h2 ⊢
  refine h2.imp_of_mem fun {a b} ha hb hne he => hne ?_
  obtain ⟨⟨a1, _⟩, ⟨a2, _⟩, _⟩ := h.ok.rng a ha
  obtain ⟨⟨b1, _⟩, ⟨b2, _⟩, _⟩ := h.ok.rng b hb
  unfold eN at he
  rw [Prod.mk.injEq] at he
  exact Prod.ext (by omega) (by omega)
theorem tr_of {ts : List T3} {t : Tri} (h : t ∈ ts.map tN) : ∃ j, j < ts.length ∧ t = tN (tr ts j) := by
  obtain ⟨x, hx, rfl⟩ := List.mem_map.1 h
  obtain ⟨j, hj, rfl⟩ := List.getElem_of_mem hx
  refine ⟨j, hj, ?_⟩
  unfold tr
  rw [List.getD_eq_getElem?_getD, List.getElem?_eq_getElem hj]
  rfl
theorem tr_mem {ts : List T3} {j : Nat} (h : j < ts.length) : tN (tr ts j) ∈ ts.map tN := by
  refine List.mem_map.2 ⟨_, ?_, rfl⟩
  unfold tr
  rw [List.getD_eq_getElem?_getD, List.getElem?_eq_getElem h]
  exact List.getElem_mem h
theorem sgn_one {n : Int} (h : sgn n = 1) : 0 < n := by
  unfold sgn at h
  split at h
  · cases h
  · split at h
    · cases h
    · omega
theorem arT_su {l : List Pn} {ts : List T3} : ∀ k, k ≤ ts.length → arT l ts k = su ((ts.take k).map tN) fun t => cr (pt l t.1) (pt l t.2.1) (pt l t.2.2)
  | 0, _ => rfl
  | k + 1, h => by
    rw [take_tr (by omega), List.map_append, su_app, ← arT_su k (by omega)]
    show arT l ts k + arS l _ 3 = _
    rw [arS_3]
    unfold su
    simp [tN]
theorem cyc_len (H : List Nat) : (cyc H).length = H.length := by
  unfold cyc
  cases H with
  | nil => rfl
  | cons a r => simp
theorem cyc_at {H : List Nat} {k : Nat} (hk : k < H.length) : (cyc H)[k]? = some (ot H k, ot H ((k + 1) % H.length)) := by
  unfold cyc
  rw [List.getElem?_zip_eq_some]
  refine ⟨ot_lt hk, ?_⟩
  by_cases h1 : k + 1 < H.length
  · rw [Nat.mod_eq_of_lt h1, List.getElem?_append_left (by simp; omega), List.getElem?_tail]
    exact ot_lt h1
  · have e : k + 1 = H.length := by omega
    rw [e, Nat.mod_self, List.getElem?_append_right (by simp; omega)]
    have : k - H.tail.length = 0 := by simp; omega
    rw [this, List.getElem?_take, if_pos (by omega)]
    exact ot_lt (by omega)
theorem arS_su (l : List Pn) (H : List Nat) : ∀ k, k ≤ H.length → arS l H k = ar (pt l) ((cyc H).take k)
  | 0, _ => rfl
  | k + 1, h => by
    have hc := cyc_at (H := H) (k := k) (by omega)
    unfold ar
    rw [List.take_add_one, hc, su_app]
    show arS l H k + _ = _
    rw [arS_su l H k (by omega)]
    unfold ar su
    simp
theorem arS_cyc (l : List Pn) (H : List Nat) : arS l H H.length = ar (pt l) (cyc H) := by
  rw [arS_su l H _ (Nat.le_refl _), ← cyc_len, List.take_length]
theorem NetR.net {l : List Pn} {ts : List T3} (h : NetR l ts) : Net 10000 l (ts.map tN) (hl l) := by
  obtain ⟨h40, hok, hap⟩ := cp_ok h.cp
  obtain ⟨g1, g2, g3⟩ := h.g
  have hrng : ∀ t ∈ ts.map tN, t.1 < l.length ∧ t.2.1 < l.length ∧ t.2.2 < l.length := fun t ht => by
    obtain ⟨j, hj, rfl⟩ := tr_of ht
    obtain ⟨h1, _⟩ := trK_0 (h.all j hj)
    unfold inR at h1
    unfold tN
    simp only
    omega
  have hpos : ∀ t ∈ ts.map tN, 0 < cr (pt l t.1) (pt l t.2.1) (pt l t.2.2) := fun t ht => by
    obtain ⟨j, hj, rfl⟩ := tr_of ht
    obtain ⟨_, _, h3, _⟩ := trK_0 (h.all j hj)
    exact sgn_one h3
  have hnf : ¬ FlatR l := fun hf => by
    have ht := tr_mem g1
    have h1 := hrng _ ht
    have h2 := hpos _ ht
    rw [flatR_all hap hf _ (pt_mem h1.1) _ (pt_mem h1.2.1) _ (pt_mem h1.2.2)] at h2
    omega
  have hfk : flK l (l.length - 2) = false := by
    cases hb : flK l (l.length - 2) with
    | false => rfl
    | true => exact absurd (flK_flat.1 hb) hnf
  have hR := hl_ring h.cp hfk
  have hl0 : 0 < l.length := by have := hR.le; have := hR.len; omega
  have hstep : ∀ a b : Nat, nxI l a l.length = b → b < l.length ∧ b ≠ a ∧ Bord l (pt l a) (pt l b) := fun a b hn => by
    rcases nxI_eq l a l.length with ⟨_, h2⟩ | ⟨j, h1, h2⟩
    · omega
    · obtain rfl : j = b := by omega
      obtain ⟨c1, c2, c3⟩ := nextTo_cand _ _ h1
      exact ⟨c1, c2, c3⟩
  refine ⟨fun p hp => ?_, hap, hrng, hpos, ed_nodup h, fun e he q hq => ?_, fun e => ?_, fun e he => ?_, ?_, ?_, fun i hi => ?_⟩
  · obtain ⟨i, hi, rfl⟩ := mem_pt hp
    exact ⟨(hok i hi).y0, (hok i hi).y1⟩
  · obtain ⟨e1, e2⟩ := bd_mem.1 he
    have m1 := (ed_iff h).1 e1
    have m2 : lk (lfA ts) (eI (sw e)) = -1 := (lk_no h).2 fun hh => e2 ((ed_iff h).2 hh)
    obtain ⟨p, hp, hpe⟩ := List.mem_map.1 m1
    have ho := h.op
    unfold opB at ho
    rw [List.any_eq_false] at ho
    have h3 := ho p hp
    rw [hpe] at h3
    cases hb : bdB l e.1 e.2 with
    | true => exact bdB_true.1 hb _ (pt_mem hq)
    | false =>
      refine absurd ?_ h3
      show (decide (lk (lfA ts) (eI (sw e)) = -1) && !bdB l (e.1 : Int).toNat (e.2 : Int).toNat) = true
      rw [m2, Int.toNat_natCast, Int.toNat_natCast, hb]
      rfl
  · have : (ts.map tN).length = 0 := by rw [e]; rfl
    rw [List.length_map] at this
    omega
  · obtain ⟨k, hk⟩ := List.mem_iff_getElem?.1 he
    have hkl : k < (hl l).length := by rw [← cyc_len]; exact (List.getElem?_eq_some_iff.1 hk).1
    rw [cyc_at hkl] at hk
    cases hk
    have hb := hR.bd k hkl
    have hn : nxI l (ot (hl l) k) l.length = ot (hl l) ((k + 1) % (hl l).length) := by
      by_cases h1 : k + 1 < (hl l).length
      · rw [Nat.mod_eq_of_lt h1]
        exact (hR.next k h1).1
      · have e : k + 1 = (hl l).length := by omega
        rw [e, Nat.mod_self, hR.zero]
        have := hR.last
        rwa [show (hl l).length - 1 = k by omega] at this
    obtain ⟨c1, c2, c3⟩ := hstep _ _ hn
    exact ⟨hb, c1, fun e => c2 e.symm, fun q hq => c3 _ (pt_mem hq)⟩
  · refine ⟨fsK l l.length, fsK_lt hl0 _ (Nat.le_refl _), fun v hv => ?_, ?_⟩
    · by_cases hve : v = fsK l l.length
      · exact .inl hve
      · refine .inr ?_
        rcases lexLt_or (p := pt l v) (q := pt l (fsK l l.length)) (fun e => hve (hap _ _ hv (fsK_lt hl0 _ (Nat.le_refl _)) e)) with h1 | h1
        · exact absurd h1 (fsK_min l.length v hv)
        · exact h1
    · have hz := hR.zero
      have hn := hR.next
      have h3 := hR.len
      generalize fsK l l.length = f at *
      generalize hl l = H at *
      cases H with
      | nil => simp at h3
      | cons a r =>
        have ha : a = f := hz
        subst ha
        have e : ∀ (r : List Nat) (b : Nat), (∀ x ∈ r, x ≠ a) → su ((b :: r).zip (r ++ [a])) (fun e => if e.2 = a then (1 : Int) else 0) = 1 := fun r => by
          induction r with
          | nil => intro b _; unfold su; simp
          | cons c r ih =>
            intro b hb
            rw [List.cons_append, List.zip_cons_cons, su_cons, ih c fun x hx => hb x (by simp [hx]), if_neg (hb c (by simp))]
            rfl
        refine e r a fun x hx => ?_
        obtain ⟨k, hk, rfl⟩ := List.getElem_of_mem hx
        have h5 := (hn k (by simp; omega)).2
        have : ot (a :: r) (k + 1) = r[k] := by unfold ot; simp [hk]
        rwa [this] at h5
  · rw [← arS_cyc, ← g2, arT_su _ (Nat.le_refl _), List.take_length]
  · have h1 := (us_full h.all).1 g3 i hi
    obtain ⟨j, hj, h2⟩ := (us_mem _).1 h1
    refine ⟨_, tr_mem hj, ?_⟩
    unfold tN
    simp only
    omega
end Go.Me
end
