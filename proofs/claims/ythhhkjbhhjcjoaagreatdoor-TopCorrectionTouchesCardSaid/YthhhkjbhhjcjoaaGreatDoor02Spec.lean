/- Chapter 2 in plain Lean: states, boxes, nominal places; no program in sight. -/
/- Chapter 2 in plain Lean, more: roots, the greatest common divisor, ticks. -/
/- Chapter 2 in plain Lean: where the search ends. -/
/- Chapter 2 in plain Lean: boxes and nominal places; the bounds of what is computed. -/
/- Chapter 2 in plain Lean: boxes are small. -/
/- Chapter 2 in plain Lean: the reference's point. -/
/- Chapter 2 in plain Lean: nearest ticks, passes. -/
import Derived.Below
set_option linter.unusedSimpArgs false
set_option linter.unusedVariables false
section
namespace Go.Ob

/-- A state vector: tick, place, error. -/
structure St where
  t : Int
  x : Int
  y : Int
  z : Int
  e : Int
  deriving DecidableEq

def St0 : St := ⟨0, 0, 0, 0, 0⟩
def at_ (l : List St) (k : Nat) : St := l.getD k St0

/-- A right state. -/
structure St.Ok (s : St) : Prop where
  t0 : 0 ≤ s.t
  t1 : s.t ≤ 1000000000
  x0 : -100000000 ≤ s.x
  x1 : s.x ≤ 100000000
  y0 : -100000000 ≤ s.y
  y1 : s.y ≤ 100000000
  z0 : -100000000 ≤ s.z
  z1 : s.z ≤ 100000000
  e0 : 0 ≤ s.e
  e1 : s.e ≤ 100000

/-- A right orbit (without its name). -/
structure Right (bd : Int) (l : List St) : Prop where
  b0 : 0 ≤ bd
  b1 : bd ≤ 100000
  n2 : 2 ≤ l.length
  n40 : l.length ≤ 40
  ok : ∀ k, k < l.length → (at_ l k).Ok
  up : ∀ k, k + 1 < l.length → (at_ l k).t < (at_ l (k + 1)).t
  arc : ∀ k, k < l.length → (at_ l k).t - (at_ l 0).t ≤ 20000

theorem Right.lt {bd : Int} {l : List St} (h : Right bd l) : ∀ (j i : Nat), i < j → j < l.length → (at_ l i).t < (at_ l j).t
  | 0, _, hi, _ => by omega
  | j + 1, i, hi, hj => by
    have := h.up j hj
    by_cases hij : i = j
    · subst hij; exact this
    · have := h.lt j i (by omega) (by omega); omega

theorem Right.le {bd : Int} {l : List St} (h : Right bd l) (i j : Nat) (hij : i ≤ j) (hj : j < l.length) : (at_ l i).t ≤ (at_ l j).t := by
  by_cases e : i = j
  · subst e; omega
  · have := h.lt j i (by omega) hj; omega

theorem up_lt {l : List St} (h : ∀ k, k + 1 < l.length → (at_ l k).t < (at_ l (k + 1)).t) : ∀ (j i : Nat), i < j → j < l.length → (at_ l i).t < (at_ l j).t
  | 0, _, hi, _ => by omega
  | j + 1, i, hi, hj => by
    have := h j hj
    by_cases hij : i = j
    · subst hij; exact this
    · have := up_lt h j i (by omega) (by omega); omega

/-- The number of the first state at or behind a tick. -/
def idx (l : List St) (t : Int) : Nat := (l.takeWhile fun s => decide (s.t < t)).length

theorem idx_of (l : List St) (t : Int) (i : Nat) (hi : i ≤ l.length) (h1 : ∀ k, k < i → (at_ l k).t < t) (h2 : i < l.length → t ≤ (at_ l i).t) : idx l t = i := by
  induction l generalizing i with
  | nil => simp at hi; subst hi; rfl
  | cons s l ih =>
    unfold idx at *
    rw [List.takeWhile_cons]
    cases i with
    | zero =>
      have := h2 (by simp)
      simp only [at_, List.getD_cons_zero] at this
      rw [if_neg (by simp; omega)]; rfl
    | succ i =>
      have h0 := h1 0 (by omega)
      simp only [at_, List.getD_cons_zero] at h0
      rw [if_pos (by simp; omega), List.length_cons]
      have := ih i (by simpa using hi) (fun k hk => by have := h1 (k + 1) (by omega); simpa [at_] using this) (fun hl => by have := h2 (by simpa using hl); simpa [at_] using this)
      omega

/-- The nominal point: coordinates and error, divided by 'over'; 'bent' between states. -/
structure Pt where
  a0 : Int
  a1 : Int
  a2 : Int
  err : Int
  over : Int
  bent : Bool

def pt (l : List St) (t : Int) : Pt :=
  let b := at_ l (idx l t)
  if b.t = t then ⟨b.x, b.y, b.z, b.e, 1, false⟩
  else
    let a := at_ l (idx l t - 1)
    ⟨a.x * (b.t - a.t - (t - a.t)) + b.x * (t - a.t), a.y * (b.t - a.t - (t - a.t)) + b.y * (t - a.t), a.z * (b.t - a.t - (t - a.t)) + b.z * (t - a.t), a.e * (b.t - a.t - (t - a.t)) + b.e * (t - a.t), b.t - a.t, true⟩

end Go.Ob
namespace Go.Ob
/-! ### Errors -/
def bnd (n lo hi : Int) : Int := if lo ≤ n ∧ n ≤ hi then 0 else 2
def rngB (n lo hi : Int) : Bool := decide (lo ≤ n ∧ n ≤ hi)
theorem rngB_true {n lo hi : Int} : rngB n lo hi = true ↔ lo ≤ n ∧ n ≤ hi := by simp [rngB]
theorem rngB_false {n lo hi : Int} : rngB n lo hi = false ↔ ¬ (lo ≤ n ∧ n ≤ hi) := by simp [rngB]
def nthI (l : List Int) (k : Nat) : Int := l.getD k 0
theorem nthI_drop {l : List Int} {k : Nat} (h : k < l.length) : l.drop k = nthI l k :: l.drop (k + 1) := by rw [List.drop_eq_getElem_cons h]; simp [nthI, h]
def firstE : List Int → Int
  | [] => 0
  | e :: r => if e = 0 then firstE r else e
def placeE (x y z : Int) : Int := firstE [bnd x (-100000000) 100000000, bnd y (-100000000) 100000000, bnd z (-100000000) 100000000]
def stE (s : St) : Int := firstE [bnd s.t 0 1000000000, placeE s.x s.y s.z, bnd s.e 0 100000]
def tickE (l : List St) (i : Nat) (t : Int) : Int :=
  if i = 0 then 0 else if t ≤ (at_ l (i - 1)).t then 9 else if t - (at_ l 0).t > 20000 then 8 else 0
/-- The byte at a place, as a number. -/
def bv (l : List UInt8) (k : Nat) : Int := ((l.getD k 0).toNat : Int)
theorem bv_bd (l : List UInt8) (k : Nat) : 0 ≤ bv l k ∧ bv l k ≤ 255 := by
  have := (l.getD k 0).toNat_lt
  unfold bv; omega
def okN (k : Nat) (n : Int) : Prop := ((97 ≤ n ∧ n ≤ 122) ∨ (65 ≤ n ∧ n ≤ 90)) ∨ (k ≠ 0 ∧ (n = 45 ∨ (48 ≤ n ∧ n ≤ 57)))
instance (k : Nat) (n : Int) : Decidable (okN k n) := by unfold okN; infer_instance
def nameB (l : List UInt8) : Bool := decide (l.length ≠ 0 ∧ l.length ≤ 12 ∧ ∀ j, j < l.length → okN j (bv l j))
theorem nameB_no {l : List UInt8} {k : Nat} (h : k < l.length) (hn : ¬ okN k (bv l k)) : nameB l = false := by
  unfold nameB; rw [decide_eq_false]; rintro ⟨_, _, h3⟩; exact hn (h3 k h)
theorem nameB_end {l : List UInt8} (h : ∀ j, j < l.length → okN j (bv l j)) : nameB l = decide (l.length ≠ 0 ∧ l.length ≤ 12) := by
  unfold nameB; congr 1; rw [eq_iff_iff]; exact ⟨fun ⟨a, b, _⟩ => ⟨a, b⟩, fun ⟨a, b⟩ => ⟨a, b, h⟩⟩
/-- The first state with an error, from number i on, n states to come. -/
def scanE (l : List St) : Nat → Nat → Int × Int
  | 0, _ => (0, 0)
  | n + 1, i => if firstE [stE (at_ l i), tickE l i (at_ l i).t] = 0 then scanE l n (i + 1) else (i, firstE [stE (at_ l i), tickE l i (at_ l i).t])
def orbE (nm : List UInt8) (bd : Int) (l : List St) : Int × Int :=
  if nameB nm = false then (0, 4) else if ¬ (0 ≤ bd ∧ bd ≤ 100000) then (0, 2) else if l.length < 2 then (0, 10) else if 40 < l.length then (0, 8) else scanE l l.length 0
theorem firstE_two (a b : Int) : firstE [a, b] = 0 ↔ a = 0 ∧ b = 0 := by
  simp only [firstE]
  by_cases h : a = 0 <;> by_cases k : b = 0 <;> simp [h, k]
theorem firstE_three (a b c : Int) : firstE [a, b, c] = 0 ↔ a = 0 ∧ b = 0 ∧ c = 0 := by
  simp only [firstE]
  by_cases h : a = 0 <;> by_cases k : b = 0 <;> by_cases m : c = 0 <;> simp [h, k, m]
theorem bnd_ok {n lo hi : Int} : bnd n lo hi = 0 ↔ lo ≤ n ∧ n ≤ hi := by
  unfold bnd; split <;> simp_all
theorem stE_ok {s : St} : stE s = 0 ↔ s.Ok := by
  unfold stE placeE
  rw [firstE_three, firstE_three, bnd_ok, bnd_ok, bnd_ok, bnd_ok, bnd_ok]
  constructor
  · rintro ⟨⟨h1, h2⟩, ⟨⟨h3, h4⟩, ⟨h5, h6⟩, h7, h8⟩, h9, h10⟩
    exact ⟨h1, h2, h3, h4, h5, h6, h7, h8, h9, h10⟩
  · intro h
    exact ⟨⟨h.t0, h.t1⟩, ⟨⟨h.x0, h.x1⟩, ⟨h.y0, h.y1⟩, h.z0, h.z1⟩, h.e0, h.e1⟩
theorem scanE_ok (l : List St) : ∀ (n i : Nat), (scanE l n i).2 = 0 → ∀ k, i ≤ k → k < i + n → stE (at_ l k) = 0 ∧ tickE l k (at_ l k).t = 0
  | 0, i, _, k, h1, h2 => by omega
  | n + 1, i, h, k, h1, h2 => by
    simp only [scanE] at h
    split at h
    · rename_i h0
      by_cases e : k = i
      · subst e; exact (firstE_two _ _).1 h0
      · exact scanE_ok l n (i + 1) h k (by omega) (by omega)
    · rename_i h0; exact absurd h h0
theorem orbE_right {nm : List UInt8} {bd : Int} {l : List St} (h : (orbE nm bd l).2 = 0) : Right bd l ∧ nameB nm = true := by
  unfold orbE at h
  split at h
  · exact absurd h (by decide)
  rename_i h1
  split at h
  · exact absurd h (by decide)
  rename_i h2
  split at h
  · exact absurd h (by decide)
  rename_i h3
  split at h
  · exact absurd h (by decide)
  rename_i h4
  have hk := scanE_ok l l.length 0 h
  have hok : ∀ k, k < l.length → (at_ l k).Ok := fun k hkl => stE_ok.1 (hk k (Nat.zero_le _) (by omega)).1
  refine ⟨⟨by omega, by omega, by omega, by omega, hok, fun k hkl => ?_, fun k hkl => ?_⟩, by simpa using h1⟩
  · have := (hk (k + 1) (Nat.zero_le _) (by omega)).2
    unfold tickE at this
    rw [if_neg (by omega)] at this
    by_cases c : (at_ l (k + 1)).t ≤ (at_ l (k + 1 - 1)).t
    · rw [if_pos c] at this; exact absurd this (by decide)
    · simpa using c
  · have := (hk k (Nat.zero_le _) (by omega)).2
    unfold tickE at this
    by_cases e : k = 0
    · subst e; omega
    rw [if_neg e] at this
    by_cases c : (at_ l k).t ≤ (at_ l (k - 1)).t
    · rw [if_pos c] at this; exact absurd this (by decide)
    · rw [if_neg c] at this
      by_cases d : (at_ l k).t - (at_ l 0).t > 20000
      · rw [if_pos d] at this; exact absurd this (by decide)
      · omega
end Go.Ob
namespace Go.Ob
def preOk (l : List St) (k : Nat) : Prop := ∀ j, j < k → stE (at_ l j) = 0 ∧ tickE l j (at_ l j).t = 0
theorem preOk.first {l : List St} {k : Nat} (h : preOk l k) (hk : k ≠ 0) : 0 ≤ (at_ l 0).t ∧ (at_ l 0).t ≤ (at_ l (k - 1)).t := by
  refine ⟨(stE_ok.1 (h 0 (by omega)).1).t0, ?_⟩
  have key : ∀ j, j < k → (at_ l 0).t ≤ (at_ l j).t := fun j => by
    induction j with
    | zero => intro _; omega
    | succ j ih =>
      intro hj
      have := ih (by omega)
      have h2 := (h (j + 1) hj).2
      unfold tickE at h2
      rw [if_neg (by omega)] at h2
      by_cases c : (at_ l (j + 1)).t ≤ (at_ l (j + 1 - 1)).t
      · rw [if_pos c] at h2; exact absurd h2 (by decide)
      · simp at c; omega
  exact key (k - 1) (by omega)
theorem preOk.succ {l : List St} {k : Nat} (h : preOk l k) (hk : firstE [stE (at_ l k), tickE l k (at_ l k).t] = 0) : preOk l (k + 1) := fun j hj => by
  by_cases e : j = k
  · subst e; exact (firstE_two _ _).1 hk
  · exact h j (by omega)
theorem scan_step {l : List St} {n k : Nat} (hk : k < n) (h : firstE [stE (at_ l k), tickE l k (at_ l k).t] = 0) : scanE l (n - k) k = scanE l (n - (k + 1)) (k + 1) := by
  rw [show n - k = (n - (k + 1)) + 1 by omega]; simp only [scanE]; rw [if_pos h]
theorem scan_stop {l : List St} {n k : Nat} (hk : k < n) (h : firstE [stE (at_ l k), tickE l k (at_ l k).t] ≠ 0) : scanE l (n - k) k = ((k : Int), firstE [stE (at_ l k), tickE l k (at_ l k).t]) := by
  rw [show n - k = (n - (k + 1)) + 1 by omega]; simp only [scanE]; rw [if_neg h]
end Go.Ob
end

section
namespace Go.Ob
/-- The root, rounded down. -/
def rtN : Nat → Nat
  | 0 => 0
  | n + 1 => if (rtN n + 1) * (rtN n + 1) ≤ n + 1 then rtN n + 1 else rtN n
theorem rtN_spec : ∀ n, rtN n * rtN n ≤ n ∧ n < (rtN n + 1) * (rtN n + 1)
  | 0 => by simp [rtN]
  | n + 1 => by
    obtain ⟨h1, h2⟩ := rtN_spec n
    simp only [rtN]
    split
    · rename_i h
      refine ⟨h, ?_⟩
      have : (rtN n + 1 + 1) * (rtN n + 1 + 1) = (rtN n + 1) * (rtN n + 1) + 2 * (rtN n + 1) + 1 := by
        simp only [Nat.add_mul, Nat.mul_add]; omega
      omega
    · rename_i h; exact ⟨by omega, by omega⟩
theorem sq_le {a b : Nat} (h : a ≤ b) : a * a ≤ b * b := Nat.mul_le_mul h h
theorem rtN_unique {n r : Nat} (h1 : r * r ≤ n) (h2 : n < (r + 1) * (r + 1)) : rtN n = r := by
  obtain ⟨h3, h4⟩ := rtN_spec n
  rcases Nat.lt_trichotomy (rtN n) r with h | h | h
  · have := sq_le (a := rtN n + 1) (b := r) (by omega); omega
  · exact h
  · have := sq_le (a := r + 1) (b := rtN n) (by omega); omega
def rt (n : Int) : Int := (rtN n.toNat : Int)
def rtUp (n : Int) : Int := if rt n * rt n < n then rt n + 1 else rt n
theorem rt_spec {n : Int} (h : 0 ≤ n) : 0 ≤ rt n ∧ rt n * rt n ≤ n ∧ n < (rt n + 1) * (rt n + 1) := by
  obtain ⟨m, rfl⟩ := Int.eq_ofNat_of_zero_le h
  obtain ⟨h1, h2⟩ := rtN_spec m
  unfold rt
  simp only [Int.toNat_natCast]
  refine ⟨by omega, ?_, ?_⟩
  · exact_mod_cast h1
  · exact_mod_cast h2
theorem rt_lt {n m : Int} (h0 : 0 ≤ n) (hm : 0 ≤ m) (h : n < m * m) : rt n < m := by
  obtain ⟨h1, h2, h3⟩ := rt_spec h0
  rcases Int.lt_or_le (rt n) m with h4 | h4
  · exact h4
  · have := Int.mul_le_mul h4 h4 hm h1; omega
def frstT (l : List St) : Int := (at_ l 0).t
def lastT (l : List St) : Int := (at_ l (l.length - 1)).t
/-- The error of an orbit and a tick. -/
def atE (nm : List UInt8) (bd : Int) (l : List St) (t : Int) : Int :=
  if (orbE nm bd l).2 ≠ 0 then (orbE nm bd l).2 else if frstT l ≤ t ∧ t ≤ lastT l then 0 else 2

/-- The search for a root, bit by bit. -/
structure RtInv (n r b : Nat) : Prop where
  lo : r * r ≤ n
  hi : n < (r + 2 * b) * (r + 2 * b) ∨ (b = 0 ∧ n < (r + 1) * (r + 1))
  pow : b = 0 ∨ ∃ k, b = 2 ^ k
theorem half_pow {b k : Nat} (h : b = 2 ^ k) : (b / 2 = 0 ∧ b = 1) ∨ (2 * (b / 2) = b ∧ ∃ k', b / 2 = 2 ^ k') := by
  cases k with
  | zero => left; simp at h; omega
  | succ k => right; rw [Nat.pow_succ] at h; exact ⟨by omega, k, by omega⟩
theorem RtInv.take {n r b : Nat} (h : RtInv n r b) (hb : 0 < b) (hx : (r + b) * (r + b) ≤ n) : RtInv n (r + b) (b / 2) := by
  have hhi : n < (r + 2 * b) * (r + 2 * b) := by rcases h.hi with h | h; exact h; omega
  rcases h.pow with h0 | ⟨k, hk⟩
  · omega
  rcases half_pow hk with ⟨h1, h2⟩ | ⟨h1, k', h2⟩
  · refine ⟨hx, .inr ⟨h1, ?_⟩, .inl h1⟩
    subst h2; rw [show r + 1 + 1 = r + 2 * 1 by omega]; exact hhi
  · refine ⟨hx, .inl ?_, .inr ⟨k', h2⟩⟩
    rw [show r + b + 2 * (b / 2) = r + 2 * b by omega]; exact hhi
theorem RtInv.pass {n r b : Nat} (h : RtInv n r b) (hb : 0 < b) (hx : n < (r + b) * (r + b)) : RtInv n r (b / 2) := by
  rcases h.pow with h0 | ⟨k, hk⟩
  · omega
  rcases half_pow hk with ⟨h1, h2⟩ | ⟨h1, k', h2⟩
  · refine ⟨h.lo, .inr ⟨h1, ?_⟩, .inl h1⟩
    subst h2; exact hx
  · refine ⟨h.lo, .inl ?_, .inr ⟨k', h2⟩⟩
    rw [show r + 2 * (b / 2) = r + b by omega]; exact hx
theorem RtInv.done {n r : Nat} (h : RtInv n r 0) : rtN n = r := by
  rcases h.hi with h1 | ⟨_, h1⟩
  · have := h.lo; simp at h1; omega
  · exact rtN_unique h.lo h1
theorem RtInv.start {n k : Nat} (h : n < 2 ^ (k + 1) * 2 ^ (k + 1)) : RtInv n 0 (2 ^ k) :=
  ⟨by simp, .inl (by rw [Nat.zero_add, ← Nat.pow_succ']; exact h), .inr ⟨k, rfl⟩⟩
end Go.Ob
end

section
namespace Go.Ob
theorem idx_take (l : List St) (t : Int) : ∀ k, k < idx l t → (at_ l k).t < t := by
  unfold idx
  induction l with
  | nil => intro k hk; simp at hk
  | cons s l ih =>
    intro k hk
    rw [List.takeWhile_cons] at hk
    split at hk
    · rename_i hs
      cases k with
      | zero => simpa [at_] using hs
      | succ k => have := ih k (by simpa using hk); simpa [at_] using this
    · simp at hk
theorem idx_stop (l : List St) (t : Int) (h : idx l t < l.length) : t ≤ (at_ l (idx l t)).t := by
  unfold idx at *
  induction l with
  | nil => simp at h
  | cons s l ih =>
    rw [List.takeWhile_cons] at h ⊢
    by_cases hs : s.t < t
    · rw [if_pos (by simpa using hs)] at h ⊢
      have := ih (by simpa using h)
      simpa [at_] using this
    · rw [if_neg (by simpa using hs)]; simp [at_]; omega
theorem idx_lt {bd : Int} {l : List St} (h : Right bd l) {t : Int} (ht : t ≤ lastT l) : idx l t < l.length := by
  have hn := h.n2
  rcases Nat.lt_or_ge (idx l t) l.length with h1 | h1
  · exact h1
  · have := idx_take l t (l.length - 1) (by omega); unfold lastT at ht; omega
theorem idx_pos {l : List St} {t : Int} (ht : frstT l ≤ t) (hn : idx l t < l.length) (hne : ¬ (at_ l (idx l t)).t = t) : 1 ≤ idx l t := by
  rcases Nat.eq_zero_or_pos (idx l t) with h1 | h1
  · have := idx_stop l t hn; rw [h1] at this hne; unfold frstT at ht; omega
  · exact h1
def ptB (a b : St) (t : Int) : Pt := ⟨a.x * (b.t - a.t - (t - a.t)) + b.x * (t - a.t), a.y * (b.t - a.t - (t - a.t)) + b.y * (t - a.t), a.z * (b.t - a.t - (t - a.t)) + b.z * (t - a.t), a.e * (b.t - a.t - (t - a.t)) + b.e * (t - a.t), b.t - a.t, true⟩
theorem pt_bent {l : List St} {t : Int} (h : ¬ (at_ l (idx l t)).t = t) : pt l t = ptB (at_ l (idx l t - 1)) (at_ l (idx l t)) t := by unfold pt ptB; rw [if_neg h]
end Go.Ob
end

section
namespace Go.Ob
structure Pt.Ok (p : Pt) : Prop where
  o0 : 1 ≤ p.over
  o1 : p.over ≤ 20000
  a00 : -2000000000000 ≤ p.a0
  a01 : p.a0 ≤ 2000000000000
  a10 : -2000000000000 ≤ p.a1
  a11 : p.a1 ≤ 2000000000000
  a20 : -2000000000000 ≤ p.a2
  a21 : p.a2 ≤ 2000000000000
  e0 : 0 ≤ p.err
  e1 : p.err ≤ 2000000000
theorem mix_bd {u v s t M : Int} (hM : 0 ≤ M) (hu0 : -M ≤ u) (hu1 : u ≤ M) (hv0 : -M ≤ v) (hv1 : v ≤ M) (hs : 0 ≤ s) (ht : 0 ≤ t) (hst : s + t ≤ 20000) :
    -(M * 20000) ≤ u * s + v * t ∧ u * s + v * t ≤ M * 20000 := by
  have h1 := Int.mul_le_mul_of_nonneg_right hu0 hs
  have h2 := Int.mul_le_mul_of_nonneg_right hu1 hs
  have h3 := Int.mul_le_mul_of_nonneg_right hv0 ht
  have h4 := Int.mul_le_mul_of_nonneg_right hv1 ht
  have h5 := Int.mul_le_mul_of_nonneg_left hst hM
  rw [Int.mul_add] at h5
  rw [Int.neg_mul] at h1 h3
  omega
theorem mix_pos {u v s t M : Int} (hu0 : 0 ≤ u) (hu1 : u ≤ M) (hv0 : 0 ≤ v) (hv1 : v ≤ M) (hs : 0 ≤ s) (ht : 0 ≤ t) (hst : s + t ≤ 20000) :
    0 ≤ u * s + v * t ∧ u * s + v * t ≤ M * 20000 := by
  have h1 := Int.mul_nonneg hu0 hs
  have h3 := Int.mul_nonneg hv0 ht
  exact ⟨by omega, (mix_bd (M := M) (by omega) (by omega) hu1 (by omega) hv1 hs ht hst).2⟩
theorem pt_ok {bd : Int} {l : List St} (h : Right bd l) {t : Int} (h0 : frstT l ≤ t) (h1 : t ≤ lastT l) : (pt l t).Ok := by
  have hk := idx_lt h h1
  have hb := h.ok _ hk
  by_cases hf : (at_ l (idx l t)).t = t
  · have : pt l t = ⟨(at_ l (idx l t)).x, (at_ l (idx l t)).y, (at_ l (idx l t)).z, (at_ l (idx l t)).e, 1, false⟩ := by unfold pt; rw [if_pos hf]
    rw [this]
    obtain ⟨h1, h2, h3, h4, h5, h6, h7, h8, h9, h10⟩ := hb
    exact ⟨by simp only; omega, by simp only; omega, by simp only; omega, by simp only; omega, by simp only; omega, by simp only; omega, by simp only; omega, by simp only; omega, h9, by simp only; omega⟩
  · have hkp := idx_pos h0 hk hf
    have hst := idx_stop l t hk
    have htk := idx_take l t (idx l t - 1) (by omega)
    have ha := h.ok (idx l t - 1) (by omega)
    have harc := h.arc (idx l t) hk
    have hmono := h.le 0 (idx l t - 1) (by omega) (by omega)
    rw [pt_bent hf]
    generalize at_ l (idx l t) = b at *
    generalize at_ l (idx l t - 1) = a at *
    obtain ⟨h1, h2, h3, h4, h5, h6, h7, h8, h9, h10⟩ := hb
    obtain ⟨g1, g2, g3, g4, g5, g6, g7, g8, g9, g10⟩ := ha
    have m1 := mix_bd (M := 100000000) (by omega) g3 g4 h3 h4 (s := b.t - a.t - (t - a.t)) (t := t - a.t) (by omega) (by omega) (by omega)
    have m2 := mix_bd (M := 100000000) (by omega) g5 g6 h5 h6 (s := b.t - a.t - (t - a.t)) (t := t - a.t) (by omega) (by omega) (by omega)
    have m3 := mix_bd (M := 100000000) (by omega) g7 g8 h7 h8 (s := b.t - a.t - (t - a.t)) (t := t - a.t) (by omega) (by omega) (by omega)
    have m4 := mix_pos g9 g10 h9 h10 (s := b.t - a.t - (t - a.t)) (t := t - a.t) (by omega) (by omega) (by omega)
    unfold ptB
    exact ⟨by simp only; omega, by simp only; omega, by simp only; omega, by simp only; omega, by simp only; omega, by simp only; omega, by simp only; omega, by simp only; omega, by simp only; omega, by simp only; omega⟩

def offP (bd : Int) (p : Pt) : Int := if p.bent then p.err + bd * p.over else p.err
theorem offP_bd {bd : Int} {p : Pt} (h : p.Ok) (h0 : 0 ≤ bd) (h1 : bd ≤ 100000) : 0 ≤ bd * p.over ∧ bd * p.over ≤ 2000000000 ∧ 0 ≤ offP bd p ∧ offP bd p ≤ 4000000000 := by
  have := h.o0
  have := h.o1
  have := h.e0
  have := h.e1
  have a := Int.mul_nonneg h0 (by omega : 0 ≤ p.over)
  have b := Int.mul_le_mul h1 h.o1 (by omega) (by omega : (0:Int) ≤ 100000)
  refine ⟨a, by omega, ?_, ?_⟩ <;> (unfold offP; split <;> omega)
/-- A box. -/
structure Bx where
  l0 : Int
  h0 : Int
  l1 : Int
  h1 : Int
  l2 : Int
  h2 : Int
  deriving DecidableEq
def dn (n off over : Int) : Int := (n - off) / over
def up (n off over : Int) : Int := -((-(n + off)) / over)
def bxP (bd : Int) (p : Pt) : Bx := ⟨dn p.a0 (offP bd p) p.over, up p.a0 (offP bd p) p.over, dn p.a1 (offP bd p) p.over, up p.a1 (offP bd p) p.over, dn p.a2 (offP bd p) p.over, up p.a2 (offP bd p) p.over⟩
def bx (bd : Int) (l : List St) (t : Int) : Bx := bxP bd (pt l t)
def rd (n over : Int) : Int := (2 * n + over) / (2 * over)
structure P3 where
  x : Int
  y : Int
  z : Int
  deriving DecidableEq
def nomP (p : Pt) : P3 := ⟨rd p.a0 p.over, rd p.a1 p.over, rd p.a2 p.over⟩
def nom (l : List St) (t : Int) : P3 := nomP (pt l t)
end Go.Ob
namespace Go.Ob
theorem sq_bd {n M : Int} (h0 : -M ≤ n) (h1 : n ≤ M) : 0 ≤ n * n ∧ n * n ≤ M * M := by
  by_cases h : 0 ≤ n
  · exact ⟨Int.mul_nonneg h h, Int.mul_le_mul h1 h1 h (by omega)⟩
  · have := Int.mul_le_mul (show -n ≤ M by omega) (show -n ≤ M by omega) (by omega) (by omega)
    rw [Int.neg_mul_neg] at this
    have h2 := Int.mul_nonneg (show 0 ≤ -n by omega) (show 0 ≤ -n by omega)
    rw [Int.neg_mul_neg] at h2
    exact ⟨h2, this⟩
def imx (x y : Int) : Int := if x < y then y else x
def imn (x y : Int) : Int := if y < x then y else x
theorem ite_imx (x y : Int) [Decidable (x < y)] : (if x < y then y else x) = imx x y := by unfold imx; by_cases h : x < y <;> simp [h]
theorem ite_imn (x y : Int) [Decidable (y < x)] : (if y < x then y else x) = imn x y := by unfold imn; by_cases h : y < x <;> simp [h]
theorem imx_spec (x y : Int) : x ≤ imx x y ∧ y ≤ imx x y ∧ (imx x y = x ∨ imx x y = y) := by unfold imx; split <;> omega
def near (lo hi x : Int) : Int := imx (imx (lo - x) (x - hi)) 0
def far (lo hi x : Int) : Int := imx (hi - x) (x - lo)
theorem near_bd {lo hi x : Int} (h0 : -300000000 ≤ lo) (h1 : lo ≤ hi) (h2 : hi ≤ 300000000) (hx0 : -200000000 ≤ x) (hx1 : x ≤ 200000000) : 0 ≤ near lo hi x * near lo hi x ∧ near lo hi x * near lo hi x ≤ 250000000000000000 := by
  have a := imx_spec (lo - x) (x - hi)
  have b := imx_spec (imx (lo - x) (x - hi)) 0
  have : 0 ≤ near lo hi x ∧ near lo hi x ≤ 500000000 := by unfold near; omega
  have := sq_bd (M := 500000000) (n := near lo hi x) (by omega) (by omega)
  omega
theorem far_bd {lo hi x : Int} (h0 : -300000000 ≤ lo) (h1 : lo ≤ hi) (h2 : hi ≤ 300000000) (hx0 : -200000000 ≤ x) (hx1 : x ≤ 200000000) : 0 ≤ far lo hi x * far lo hi x ∧ far lo hi x * far lo hi x ≤ 250000000000000000 := by
  have a := imx_spec (hi - x) (x - lo)
  have : 0 ≤ far lo hi x ∧ far lo hi x ≤ 500000000 := by unfold far; omega
  have := sq_bd (M := 500000000) (n := far lo hi x) (by omega) (by omega)
  omega
def sqLo (b : Bx) (x y z : Int) : Int := near b.l0 b.h0 x * near b.l0 b.h0 x + near b.l1 b.h1 y * near b.l1 b.h1 y + near b.l2 b.h2 z * near b.l2 b.h2 z
def sqHi (b : Bx) (x y z : Int) : Int := far b.l0 b.h0 x * far b.l0 b.h0 x + far b.l1 b.h1 y * far b.l1 b.h1 y + far b.l2 b.h2 z * far b.l2 b.h2 z
/-- A box whose numbers are small. -/
structure Bx.Ok (b : Bx) : Prop where
  l00 : -300000000 ≤ b.l0
  l01 : b.l0 ≤ b.h0
  h01 : b.h0 ≤ 300000000
  l10 : -300000000 ≤ b.l1
  l11 : b.l1 ≤ b.h1
  h11 : b.h1 ≤ 300000000
  l20 : -300000000 ≤ b.l2
  l21 : b.l2 ≤ b.h2
  h21 : b.h2 ≤ 300000000
end Go.Ob
namespace Go.Ob
/-- The sum of the first k of three numbers. -/
def ps (a b c : Int) (k : Nat) : Int := if k = 0 then 0 else if k = 1 then a else if k = 2 then a + b else a + b + c
theorem ps_0 (a b c : Int) : ps a b c 0 = 0 := rfl
theorem ps_1 (a b c : Int) : ps a b c 1 = a := rfl
theorem ps_2 (a b c : Int) : ps a b c 2 = a + b := rfl
theorem ps_3 (a b c : Int) : ps a b c 3 = a + b + c := rfl
end Go.Ob
end

section
namespace Go.Ob
theorem ediv_bd {n d B : Int} (hd : 1 ≤ d) (h0 : -(B * d) ≤ n) (h1 : n ≤ B * d) : -B ≤ n / d ∧ n / d ≤ B := by
  constructor
  · refine Int.le_ediv_of_mul_le (by omega) ?_; rw [Int.neg_mul]; exact h0
  · have : n / d < B + 1 := Int.ediv_lt_of_lt_mul (by omega) (by rw [Int.add_mul]; omega)
    omega
theorem dn_le_up {n off over : Int} (ho : 1 ≤ over) (hf : 0 ≤ off) : dn n off over ≤ up n off over := by
  unfold dn up
  have h1 := Int.mul_ediv_add_emod (n - off) over
  have h2 := Int.emod_nonneg (n - off) (show over ≠ 0 by omega)
  have h3 := Int.mul_ediv_add_emod (-(n + off)) over
  have h4 := Int.emod_nonneg (-(n + off)) (show over ≠ 0 by omega)
  have h5 : over * ((n - off) / over + -(n + off) / over) ≤ 0 := by rw [Int.mul_add]; omega
  rcases Int.lt_or_le 0 ((n - off) / over + -(n + off) / over) with h6 | h6
  · have := Int.mul_le_mul_of_nonneg_left (show 1 ≤ (n - off) / over + -(n + off) / over by omega) (show 0 ≤ over by omega)
    omega
  · omega
end Go.Ob
end

section
namespace Go.Ob
def kUp (l : List St) (t : Int) : Nat → Nat → Nat
  | 0, k => k
  | f + 1, k => if k + 2 < l.length ∧ (at_ l (k + 1)).t ≤ t then kUp l t f (k + 1) else k
def kR (l : List St) (t : Int) : Nat := kUp l t l.length 0
/-- What the reference says of a point. -/
structure PtR where
  a0 : Int
  a1 : Int
  a2 : Int
  wrong : Int
  bend : Int
  den : Int
def prR (bd : Int) (a b : St) (t : Int) : PtR :=
  ⟨a.x * (b.t - a.t - (t - a.t)) + b.x * (t - a.t), a.y * (b.t - a.t - (t - a.t)) + b.y * (t - a.t), a.z * (b.t - a.t - (t - a.t)) + b.z * (t - a.t), a.e * (b.t - a.t - (t - a.t)) + b.e * (t - a.t),
    if t - a.t ≠ 0 ∧ t - a.t ≠ b.t - a.t then bd * (b.t - a.t) else 0, b.t - a.t⟩
def ptR (bd : Int) (l : List St) (t : Int) : PtR := prR bd (at_ l (kR l t)) (at_ l (kR l t + 1)) t
/-- Where the reference's search ends. -/
theorem kR_spec {bd : Int} {l : List St} (h : Right bd l) {t : Int} (h0 : frstT l ≤ t) (h1 : t ≤ lastT l) : kR l t + 1 < l.length ∧ (at_ l (kR l t)).t ≤ t ∧ t ≤ (at_ l (kR l t + 1)).t := by
  have key : ∀ f k, k + f = l.length → k + 1 < l.length → (at_ l k).t ≤ t → kUp l t f k + 1 < l.length ∧ (at_ l (kUp l t f k)).t ≤ t ∧ t ≤ (at_ l (kUp l t f k + 1)).t := by
    intro f
    induction f with
    | zero => intro k h2 h3 h4; omega
    | succ f ih =>
      intro k h2 h3 h4
      simp only [kUp]
      split
      · rename_i hc; exact ih (k + 1) (by omega) (by omega) hc.2
      · rename_i hc
        refine ⟨h3, h4, ?_⟩
        by_cases h5 : k + 2 < l.length
        · have : ¬ (at_ l (k + 1)).t ≤ t := fun hh => hc ⟨h5, hh⟩
          omega
        · have : k + 1 = l.length - 1 := by omega
          unfold lastT at h1; rw [this]; exact h1
  exact key l.length 0 (by omega) (by have := h.n2; omega) h0
end Go.Ob
end

section
namespace Go.Ob
/-- Ranges with one number more behind them. -/
def grow (l : List (Int × Int)) (t : Int) : List (Int × Int) :=
  match l.getLast? with
  | some r => if r.2 = t - 1 then l.dropLast ++ [(r.1, t)] else l ++ [(t, t)]
  | none => [(t, t)]
def runTo (is : Int → Bool) (a : Int) : Nat → List (Int × Int)
  | 0 => []
  | k + 1 => if is (a + k) = true then grow (runTo is a k) (a + k) else runTo is a k
end Go.Ob
end
