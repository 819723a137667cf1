/- Chapter 2 in plain Lean: states, boxes, nominal places; no program in sight. -/
import Derived.Below
set_option linter.unusedSimpArgs false
set_option linter.unusedVariables false
namespace Go.Ob

/-- A state vector: tick, place, error. -/
structure St where
  t : Int
  x : Int
  y : Int
  z : Int
  e : Int
  deriving DecidableEq

def St0 : St := ⟨0, 0, 0, 0, 0⟩
def at_ (l : List St) (k : Nat) : St := l.getD k St0

/-- A right state. -/
structure St.Ok (s : St) : Prop where
  t0 : 0 ≤ s.t
  t1 : s.t ≤ 1000000000
  x0 : -100000000 ≤ s.x
  x1 : s.x ≤ 100000000
  y0 : -100000000 ≤ s.y
  y1 : s.y ≤ 100000000
  z0 : -100000000 ≤ s.z
  z1 : s.z ≤ 100000000
  e0 : 0 ≤ s.e
  e1 : s.e ≤ 100000

/-- A right orbit (without its name). -/
structure Right (bd : Int) (l : List St) : Prop where
  b0 : 0 ≤ bd
  b1 : bd ≤ 100000
  n2 : 2 ≤ l.length
  n40 : l.length ≤ 40
  ok : ∀ k, k < l.length → (at_ l k).Ok
  up : ∀ k, k + 1 < l.length → (at_ l k).t < (at_ l (k + 1)).t
  arc : ∀ k, k < l.length → (at_ l k).t - (at_ l 0).t ≤ 20000

theorem Right.lt {bd : Int} {l : List St} (h : Right bd l) : ∀ (j i : Nat), i < j → j < l.length → (at_ l i).t < (at_ l j).t
  | 0, _, hi, _ => by omega
  | j + 1, i, hi, hj => by
    have := h.up j hj
    by_cases hij : i = j
    · subst hij; exact this
    · have := h.lt j i (by omega) (by omega); omega

theorem Right.le {bd : Int} {l : List St} (h : Right bd l) (i j : Nat) (hij : i ≤ j) (hj : j < l.length) : (at_ l i).t ≤ (at_ l j).t := by
  by_cases e : i = j
  · subst e; omega
  · have := h.lt j i (by omega) hj; omega

theorem up_lt {l : List St} (h : ∀ k, k + 1 < l.length → (at_ l k).t < (at_ l (k + 1)).t) : ∀ (j i : Nat), i < j → j < l.length → (at_ l i).t < (at_ l j).t
  | 0, _, hi, _ => by omega
  | j + 1, i, hi, hj => by
    have := h j hj
    by_cases hij : i = j
    · subst hij; exact this
    · have := up_lt h j i (by omega) (by omega); omega

/-- The number of the first state at or behind a tick. -/
def idx (l : List St) (t : Int) : Nat := (l.takeWhile fun s => decide (s.t < t)).length

theorem idx_of (l : List St) (t : Int) (i : Nat) (hi : i ≤ l.length) (h1 : ∀ k, k < i → (at_ l k).t < t) (h2 : i < l.length → t ≤ (at_ l i).t) : idx l t = i := by
  induction l generalizing i with
  | nil => simp at hi; subst hi; rfl
  | cons s l ih =>
    unfold idx at *
    rw [List.takeWhile_cons]
    cases i with
    | zero =>
      have := h2 (by simp)
      simp only [at_, List.getD_cons_zero] at this
      rw [if_neg (by simp; omega)]; rfl
    | succ i =>
      have h0 := h1 0 (by omega)
      simp only [at_, List.getD_cons_zero] at h0
      rw [if_pos (by simp; omega), List.length_cons]
      have := ih i (by simpa using hi) (fun k hk => by have := h1 (k + 1) (by omega); simpa [at_] using this) (fun hl => by have := h2 (by simpa using hl); simpa [at_] using this)
      omega

/-- The nominal point: coordinates and error, divided by 'over'; 'bent' between states. -/
structure Pt where
  a0 : Int
  a1 : Int
  a2 : Int
  err : Int
  over : Int
  bent : Bool

def pt (l : List St) (t : Int) : Pt :=
  let b := at_ l (idx l t)
  if b.t = t then ⟨b.x, b.y, b.z, b.e, 1, false⟩
  else
    let a := at_ l (idx l t - 1)
    ⟨a.x * (b.t - a.t - (t - a.t)) + b.x * (t - a.t), a.y * (b.t - a.t - (t - a.t)) + b.y * (t - a.t), a.z * (b.t - a.t - (t - a.t)) + b.z * (t - a.t), a.e * (b.t - a.t - (t - a.t)) + b.e * (t - a.t), b.t - a.t, true⟩

end Go.Ob
namespace Go.Ob
/-! ### Errors -/
def bnd (n lo hi : Int) : Int := if lo ≤ n ∧ n ≤ hi then 0 else 2
def rngB (n lo hi : Int) : Bool := decide (lo ≤ n ∧ n ≤ hi)
theorem rngB_true {n lo hi : Int} : rngB n lo hi = true ↔ lo ≤ n ∧ n ≤ hi := by simp [rngB]
theorem rngB_false {n lo hi : Int} : rngB n lo hi = false ↔ ¬ (lo ≤ n ∧ n ≤ hi) := by simp [rngB]
def nthI (l : List Int) (k : Nat) : Int := l.getD k 0
theorem nthI_drop {l : List Int} {k : Nat} (h : k < l.length) : l.drop k = nthI l k :: l.drop (k + 1) := by rw [List.drop_eq_getElem_cons h]; simp [nthI, h]
def firstE : List Int → Int
  | [] => 0
  | e :: r => if e = 0 then firstE r else e
def placeE (x y z : Int) : Int := firstE [bnd x (-100000000) 100000000, bnd y (-100000000) 100000000, bnd z (-100000000) 100000000]
def stE (s : St) : Int := firstE [bnd s.t 0 1000000000, placeE s.x s.y s.z, bnd s.e 0 100000]
def tickE (l : List St) (i : Nat) (t : Int) : Int :=
  if i = 0 then 0 else if t ≤ (at_ l (i - 1)).t then 9 else if t - (at_ l 0).t > 20000 then 8 else 0
/-- The byte at a place, as a number. -/
def bv (l : List UInt8) (k : Nat) : Int := ((l.getD k 0).toNat : Int)
theorem bv_bd (l : List UInt8) (k : Nat) : 0 ≤ bv l k ∧ bv l k ≤ 255 := by
  have := (l.getD k 0).toNat_lt
  unfold bv; omega
def okN (k : Nat) (n : Int) : Prop := ((97 ≤ n ∧ n ≤ 122) ∨ (65 ≤ n ∧ n ≤ 90)) ∨ (k ≠ 0 ∧ (n = 45 ∨ (48 ≤ n ∧ n ≤ 57)))
instance (k : Nat) (n : Int) : Decidable (okN k n) := by unfold okN; infer_instance
def nameB (l : List UInt8) : Bool := decide (l.length ≠ 0 ∧ l.length ≤ 12 ∧ ∀ j, j < l.length → okN j (bv l j))
theorem nameB_no {l : List UInt8} {k : Nat} (h : k < l.length) (hn : ¬ okN k (bv l k)) : nameB l = false := by
  unfold nameB; rw [decide_eq_false]; rintro ⟨_, _, h3⟩; exact hn (h3 k h)
theorem nameB_end {l : List UInt8} (h : ∀ j, j < l.length → okN j (bv l j)) : nameB l = decide (l.length ≠ 0 ∧ l.length ≤ 12) := by
  unfold nameB; congr 1; rw [eq_iff_iff]; exact ⟨fun ⟨a, b, _⟩ => ⟨a, b⟩, fun ⟨a, b⟩ => ⟨a, b, h⟩⟩
/-- The first state with an error, from number i on, n states to come. -/
def scanE (l : List St) : Nat → Nat → Int × Int
  | 0, _ => (0, 0)
  | n + 1, i => if firstE [stE (at_ l i), tickE l i (at_ l i).t] = 0 then scanE l n (i + 1) else (i, firstE [stE (at_ l i), tickE l i (at_ l i).t])
def orbE (nm : List UInt8) (bd : Int) (l : List St) : Int × Int :=
  if nameB nm = false then (0, 4) else if ¬ (0 ≤ bd ∧ bd ≤ 100000) then (0, 2) else if l.length < 2 then (0, 10) else if 40 < l.length then (0, 8) else scanE l l.length 0
theorem firstE_two (a b : Int) : firstE [a, b] = 0 ↔ a = 0 ∧ b = 0 := by
  simp only [firstE]
  by_cases h : a = 0 <;> by_cases k : b = 0 <;> simp [h, k]
theorem firstE_three (a b c : Int) : firstE [a, b, c] = 0 ↔ a = 0 ∧ b = 0 ∧ c = 0 := by
  simp only [firstE]
  by_cases h : a = 0 <;> by_cases k : b = 0 <;> by_cases m : c = 0 <;> simp [h, k, m]
theorem bnd_ok {n lo hi : Int} : bnd n lo hi = 0 ↔ lo ≤ n ∧ n ≤ hi := by
  unfold bnd; split <;> simp_all
theorem stE_ok {s : St} : stE s = 0 ↔ s.Ok := by
  unfold stE placeE
  rw [firstE_three, firstE_three, bnd_ok, bnd_ok, bnd_ok, bnd_ok, bnd_ok]
  constructor
  · rintro ⟨⟨h1, h2⟩, ⟨⟨h3, h4⟩, ⟨h5, h6⟩, h7, h8⟩, h9, h10⟩
    exact ⟨h1, h2, h3, h4, h5, h6, h7, h8, h9, h10⟩
  · intro h
    exact ⟨⟨h.t0, h.t1⟩, ⟨⟨h.x0, h.x1⟩, ⟨h.y0, h.y1⟩, h.z0, h.z1⟩, h.e0, h.e1⟩
theorem scanE_ok (l : List St) : ∀ (n i : Nat), (scanE l n i).2 = 0 → ∀ k, i ≤ k → k < i + n → stE (at_ l k) = 0 ∧ tickE l k (at_ l k).t = 0
  | 0, i, _, k, h1, h2 => by omega
  | n + 1, i, h, k, h1, h2 => by
    simp only [scanE] at h
    split at h
    · rename_i h0
      by_cases e : k = i
      · subst e; exact (firstE_two _ _).1 h0
      · exact scanE_ok l n (i + 1) h k (by omega) (by omega)
    · rename_i h0; exact absurd h h0
theorem orbE_right {nm : List UInt8} {bd : Int} {l : List St} (h : (orbE nm bd l).2 = 0) : Right bd l ∧ nameB nm = true := by
  unfold orbE at h
  split at h
  · exact absurd h (by decide)
  rename_i h1
  split at h
  · exact absurd h (by decide)
  rename_i h2
  split at h
  · exact absurd h (by decide)
  rename_i h3
  split at h
  · exact absurd h (by decide)
  rename_i h4
  have hk := scanE_ok l l.length 0 h
  have hok : ∀ k, k < l.length → (at_ l k).Ok := fun k hkl => stE_ok.1 (hk k (Nat.zero_le _) (by omega)).1
  refine ⟨⟨by omega, by omega, by omega, by omega, hok, fun k hkl => ?_, fun k hkl => ?_⟩, by simpa using h1⟩
  · have := (hk (k + 1) (Nat.zero_le _) (by omega)).2
    unfold tickE at this
    rw [if_neg (by omega)] at this
    by_cases c : (at_ l (k + 1)).t ≤ (at_ l (k + 1 - 1)).t
    · rw [if_pos c] at this; exact absurd this (by decide)
    · simpa using c
  · have := (hk k (Nat.zero_le _) (by omega)).2
    unfold tickE at this
    by_cases e : k = 0
    · subst e; omega
    rw [if_neg e] at this
    by_cases c : (at_ l k).t ≤ (at_ l (k - 1)).t
    · rw [if_pos c] at this; exact absurd this (by decide)
    · rw [if_neg c] at this
      by_cases d : (at_ l k).t - (at_ l 0).t > 20000
      · rw [if_pos d] at this; exact absurd this (by decide)
      · omega
end Go.Ob
namespace Go.Ob
def preOk (l : List St) (k : Nat) : Prop := ∀ j, j < k → stE (at_ l j) = 0 ∧ tickE l j (at_ l j).t = 0
theorem preOk.first {l : List St} {k : Nat} (h : preOk l k) (hk : k ≠ 0) : 0 ≤ (at_ l 0).t ∧ (at_ l 0).t ≤ (at_ l (k - 1)).t := by
  refine ⟨(stE_ok.1 (h 0 (by omega)).1).t0, ?_⟩
  have key : ∀ j, j < k → (at_ l 0).t ≤ (at_ l j).t := fun j => by
    induction j with
    | zero => intro _; omega
    | succ j ih =>
      intro hj
      have := ih (by omega)
      have h2 := (h (j + 1) hj).2
      unfold tickE at h2
      rw [if_neg (by omega)] at h2
      by_cases c : (at_ l (j + 1)).t ≤ (at_ l (j + 1 - 1)).t
      · rw [if_pos c] at h2; exact absurd h2 (by decide)
      · simp at c; omega
  exact key (k - 1) (by omega)
theorem preOk.succ {l : List St} {k : Nat} (h : preOk l k) (hk : firstE [stE (at_ l k), tickE l k (at_ l k).t] = 0) : preOk l (k + 1) := fun j hj => by
  by_cases e : j = k
  · subst e; exact (firstE_two _ _).1 hk
  · exact h j (by omega)
theorem scan_step {l : List St} {n k : Nat} (hk : k < n) (h : firstE [stE (at_ l k), tickE l k (at_ l k).t] = 0) : scanE l (n - k) k = scanE l (n - (k + 1)) (k + 1) := by
  rw [show n - k = (n - (k + 1)) + 1 by omega]; simp only [scanE]; rw [if_pos h]
theorem scan_stop {l : List St} {n k : Nat} (hk : k < n) (h : firstE [stE (at_ l k), tickE l k (at_ l k).t] ≠ 0) : scanE l (n - k) k = ((k : Int), firstE [stE (at_ l k), tickE l k (at_ l k).t]) := by
  rw [show n - k = (n - (k + 1)) + 1 by omega]; simp only [scanE]; rw [if_neg h]
end Go.Ob
