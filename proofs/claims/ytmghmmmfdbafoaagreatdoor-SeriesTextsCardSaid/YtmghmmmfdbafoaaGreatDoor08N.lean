/- Chapter 8 in plain Lean: sums of products, determinants, rank (Cauchy and Binet); dates and their errors. -/
import Derived.Test.YtmghmmmfdbafoaaGreatDoor08S
set_option linter.unusedSimpArgs false
set_option linter.unusedVariables false
namespace Go.Sr
/-- An observation: the factors of the parameters, and what is observed. -/
structure Rw where
  x : Int
  y : Int
  z : Int
  v : Int
def Rw0 : Rw := ⟨0, 0, 0, 0⟩
def sm (f : Rw → Int) (R : List Rw) : Int := (R.map f).sum
theorem sm_snoc (f : Rw → Int) (R : List Rw) (r : Rw) : sm f (R ++ [r]) = sm f R + f r := by simp [sm]
theorem sm_take (f : Rw → Int) (R : List Rw) (k : Nat) (h : k < R.length) : sm f (R.take (k + 1)) = sm f (R.take k) + f (R.getD k Rw0) := by
  rw [List.take_add_one, List.getElem?_eq_getElem h, Option.toList_some, sm_snoc, List.getD_eq_getElem?_getD, List.getElem?_eq_getElem h]; rfl
theorem sm_bd (f : Rw → Int) (B : Int) (hB : 0 ≤ B) : ∀ (R : List Rw), (∀ r ∈ R, -B ≤ f r ∧ f r ≤ B) → -(B * R.length) ≤ sm f R ∧ sm f R ≤ B * R.length
  | [], _ => by simp [sm]
  | r :: R, h => by
    have h1 := sm_bd f B hB R fun q hq => h q (by simp [hq])
    have h2 := h r (by simp)
    have : sm f (r :: R) = f r + sm f R := rfl
    rw [this, List.length_cons, Int.natCast_add, Int.mul_add]
    omega
/-- Six sums and three. -/
structure Nm where
  xx : Int
  xy : Int
  xz : Int
  yy : Int
  yz : Int
  zz : Int
  p : Int
  q : Int
  r : Int
def nm (R : List Rw) : Nm := ⟨sm (fun r => r.x * r.x) R, sm (fun r => r.x * r.y) R, sm (fun r => r.x * r.z) R, sm (fun r => r.y * r.y) R, sm (fun r => r.y * r.z) R, sm (fun r => r.z * r.z) R, sm (fun r => r.x * r.v) R, sm (fun r => r.y * r.v) R, sm (fun r => r.z * r.v) R⟩
def Nm.det (n : Nm) : Int := n.xx * (n.yy * n.zz - n.yz * n.yz) - n.xy * (n.xy * n.zz - n.yz * n.xz) + n.xz * (n.xy * n.yz - n.yy * n.xz)
/-- Cross and dot products. -/
abbrev V3 := Int × Int × Int
def crs (a b : V3) : V3 := (a.2.1 * b.2.2 - a.2.2 * b.2.1, a.2.2 * b.1 - a.1 * b.2.2, a.1 * b.2.1 - a.2.1 * b.1)
def dt (a b : V3) : Int := a.1 * b.1 + a.2.1 * b.2.1 + a.2.2 * b.2.2
def Rw.w (r : Rw) : V3 := (r.x, r.y, r.z)

/-- The determinant grows by a square for each pair of earlier rows. -/
def q2 (u v : V3) : Int := dt (crs u v) (crs u v)
def gv (l : List V3) (k : Nat) : V3 := l.getD k (0, 0, 0)
def E1 (l : List V3) (i : Nat) : Prop := ∃ j, j < i ∧ gv l j ≠ (0, 0, 0)
end Go.Sr
namespace Go.Sr
def okN (j : Nat) (c : Nat) : Prop := (97 ≤ c ∧ c ≤ 122 ∨ 65 ≤ c ∧ c ≤ 90) ∨ j ≠ 0 ∧ (c = 45 ∨ 48 ≤ c ∧ c ≤ 57)
def bv (l : List UInt8) (j : Nat) : Nat := (l.getD j 0).toNat
instance (j c : Nat) : Decidable (okN j c) := by unfold okN; infer_instance
def nameB (l : List UInt8) : Bool := decide (l.length ≠ 0 ∧ l.length ≤ 12 ∧ ∀ j, j < l.length → okN j (bv l j))
/-- A date. -/
structure Ep where
  d : Int
  b : Int
  p : Int
  m : Int
def Ep0 : Ep := ⟨0, 0, 0, 0⟩
def ep (l : List Ep) (k : Nat) : Ep := l.getD k Ep0
def epOk (e : Ep) : Bool := (rngB e.d 0 100000 && rngB e.b (-100) 100) && (rngB e.p (-16000) 16000 && rngB e.m 0 2048)
def epE (l : List Ep) (k : Nat) : Int := if epOk (ep l k) = false then 2 else if 0 < k ∧ (ep l k).d ≤ (ep l (k - 1)).d then 9 else if 400 < (ep l k).d - (ep l 0).d then 8 else 0
def scE (l : List Ep) : Nat → Nat → Int
  | 0, _ => 0
  | n + 1, k => if epE l k = 0 then scE l n (k + 1) else epE l k
theorem scE_end (l : List Ep) : ∀ n k, (∀ j, k ≤ j → j < k + n → epE l j = 0) → scE l n k = 0
  | 0, _, _ => rfl
  | n + 1, k, h => by rw [scE, if_pos (h k (by omega) (by omega)), scE_end l n (k + 1) fun j h1 h2 => h j (by omega) (by omega)]
theorem scE_at (l : List Ep) : ∀ n k i, (∀ j, k ≤ j → j < i → epE l j = 0) → k ≤ i → i < k + n → epE l i ≠ 0 → scE l n k = epE l i
  | 0, _, _, _, _, _, _ => by omega
  | n + 1, k, i, h, h1, h2, h3 => by
    rw [scE]
    by_cases hk : k = i
    · subst hk; rw [if_neg h3]
    · rw [if_pos (h k (by omega) (by omega))]
      exact scE_at l n (k + 1) i (fun j h4 h5 => h j (by omega) h5) (by omega) (by omega) h3
theorem scE_ok (l : List Ep) : ∀ n k, scE l n k = 0 → ∀ j, k ≤ j → j < k + n → epE l j = 0
  | 0, _, _, _, _, _ => by omega
  | n + 1, k, h, j, h1, h2 => by
    rw [scE] at h
    split at h
    · by_cases hk : j = k
      · subst hk; assumption
      · exact scE_ok l n (k + 1) h j (by omega) (by omega)
    · contradiction
/-- The error of a series. -/
def srE (nm : List UInt8) (l : List Ep) : Int := if nameB nm = false then 4 else if l.length = 0 then 10 else if 20 < l.length then 8 else scE l l.length 0
/-- A right series. -/
structure SRight (l : List Ep) : Prop where
  n1 : 1 ≤ l.length
  n20 : l.length ≤ 20
  ok : ∀ k, k < l.length → epE l k = 0
theorem srE_right {nm : List UInt8} {l : List Ep} (h : srE nm l = 0) : SRight l ∧ nameB nm = true := by
  unfold srE at h
  split at h
  · omega
  · rename_i hn
    split at h
    · omega
    · split at h
      · omega
      · exact ⟨⟨by omega, by omega, fun k hk => scE_ok l _ _ h k (by omega) (by omega)⟩, by simpa using hn⟩
theorem right_srE {nm : List UInt8} {l : List Ep} (h : SRight l) (hn : nameB nm = true) : srE nm l = 0 := by
  unfold srE
  rw [if_neg (by simp [hn]), if_neg (by have := h.n1; omega), if_neg (by have := h.n20; omega)]
  exact scE_end l _ _ fun j _ hj => h.ok j (by omega)
theorem epE_ok {l : List Ep} {k : Nat} (h : epE l k = 0) : (0 ≤ (ep l k).d ∧ (ep l k).d ≤ 100000) ∧ (-100 ≤ (ep l k).b ∧ (ep l k).b ≤ 100) ∧ (-16000 ≤ (ep l k).p ∧ (ep l k).p ≤ 16000) ∧ (0 ≤ (ep l k).m ∧ (ep l k).m ≤ 2048) ∧
    (0 < k → (ep l (k - 1)).d < (ep l k).d) ∧ (ep l k).d - (ep l 0).d ≤ 400 := by
  unfold epE at h
  split at h
  · omega
  · rename_i h1
    simp only [epOk, Bool.not_eq_false, Bool.and_eq_true, rngB_true] at h1
    split at h
    · omega
    · split at h
      · omega
      · omega
theorem SRight.up {l : List Ep} (h : SRight l) : ∀ (j i : Nat), i ≤ j → j < l.length → (ep l i).d ≤ (ep l j).d
  | 0, i, hi, _ => by
    obtain rfl : i = 0 := by omega
    omega
  | j + 1, i, hi, hj => by
    by_cases e : i = j + 1
    · subst e; omega
    · have h1 := h.up j i (by omega) (by omega)
      have h2 := (epE_ok (h.ok (j + 1) hj)).2.2.2.2.1 (by omega)
      simp only [Nat.add_sub_cancel] at h2
      omega
theorem SRight.bd {l : List Ep} (h : SRight l) (k : Nat) (hk : k < l.length) : (0 ≤ (ep l k).d ∧ (ep l k).d ≤ 100000) ∧ (-100 ≤ (ep l k).b ∧ (ep l k).b ≤ 100) ∧ (-16000 ≤ (ep l k).p ∧ (ep l k).p ≤ 16000) ∧ (0 ≤ (ep l k).m ∧ (ep l k).m ≤ 2048) ∧
    0 ≤ (ep l k).d - (ep l 0).d ∧ (ep l k).d - (ep l 0).d ≤ 400 := by
  have h1 := epE_ok (h.ok k hk)
  have h2 := h.up k 0 (by omega) hk
  omega
end Go.Sr
namespace Go.Sr
def rw_ (R : List Rw) (k : Nat) : Rw := R.getD k Rw0
/-- Rows within bounds. -/
def RB (X Y : Int) (R : List Rw) : Prop := ∀ r ∈ R, (-X ≤ r.x ∧ r.x ≤ X) ∧ (-Y ≤ r.y ∧ r.y ≤ Y) ∧ (0 ≤ r.z ∧ r.z ≤ 1) ∧ -16000 ≤ r.v ∧ r.v ≤ 16000
theorem RB.at {X Y : Int} {R : List Rw} (h : RB X Y R) (k : Nat) (hk : k < R.length) : (-X ≤ (rw_ R k).x ∧ (rw_ R k).x ≤ X) ∧ (-Y ≤ (rw_ R k).y ∧ (rw_ R k).y ≤ Y) ∧ (0 ≤ (rw_ R k).z ∧ (rw_ R k).z ≤ 1) ∧ -16000 ≤ (rw_ R k).v ∧ (rw_ R k).v ≤ 16000 := by
  refine h _ ?_
  unfold rw_
  rw [List.getD_eq_getElem?_getD, List.getElem?_eq_getElem hk]
  exact List.getElem_mem hk
theorem RB.take {X Y : Int} {R : List Rw} (h : RB X Y R) (k : Nat) : RB X Y (R.take k) := fun r hr => h r (List.mem_of_mem_take hr)
theorem mulb {a b A B : Int} (ha : -A ≤ a ∧ a ≤ A) (hb : -B ≤ b ∧ b ≤ B) : -(A * B) ≤ a * b ∧ a * b ≤ A * B := by
  have hA : 0 ≤ A := by omega
  have hB : 0 ≤ B := by omega
  have h : (a * b).natAbs ≤ (A * B).natAbs := by
    rw [Int.natAbs_mul, Int.natAbs_mul]
    exact Nat.mul_le_mul (by omega) (by omega)
  have : 0 ≤ A * B := Int.mul_nonneg hA hB
  omega
theorem mulc {a b A B : Int} (C : Int) (ha : -A ≤ a ∧ a ≤ A) (hb : -B ≤ b ∧ b ≤ B) (h : A * B ≤ C) : -C ≤ a * b ∧ a * b ≤ C := by
  have := mulb ha hb
  omega
theorem smb (f : Rw → Int) (B N C : Int) (hB : 0 ≤ B) (R : List Rw) (h : ∀ r ∈ R, -B ≤ f r ∧ f r ≤ B) (hN : (R.length : Int) ≤ N) (hC : B * N ≤ C) : -C ≤ sm f R ∧ sm f R ≤ C := by
  have h1 := sm_bd f B hB R h
  have h2 : B * R.length ≤ B * N := Int.mul_le_mul_of_nonneg_left hN hB
  omega
/-- The sums within bounds: for 24 rows up to 400 and 200. -/
structure NB (n : Nm) : Prop where
  xx : -3840000 ≤ n.xx ∧ n.xx ≤ 3840000
  xy : -1920000 ≤ n.xy ∧ n.xy ≤ 1920000
  xz : -9600 ≤ n.xz ∧ n.xz ≤ 9600
  yy : -960000 ≤ n.yy ∧ n.yy ≤ 960000
  yz : -4800 ≤ n.yz ∧ n.yz ≤ 4800
  zz : -24 ≤ n.zz ∧ n.zz ≤ 24
  p : -153600000 ≤ n.p ∧ n.p ≤ 153600000
  q : -76800000 ≤ n.q ∧ n.q ≤ 76800000
  r : -384000 ≤ n.r ∧ n.r ≤ 384000
/-- For 20 dates. -/
structure SB (n : Nm) : Prop where
  xx : -3200000 ≤ n.xx ∧ n.xx ≤ 3200000
  xy : -800000 ≤ n.xy ∧ n.xy ≤ 800000
  xz : -8000 ≤ n.xz ∧ n.xz ≤ 8000
  yy : -200000 ≤ n.yy ∧ n.yy ≤ 200000
  yz : -2000 ≤ n.yz ∧ n.yz ≤ 2000
  zz : -20 ≤ n.zz ∧ n.zz ≤ 20
  p : -128000000 ≤ n.p ∧ n.p ≤ 128000000
  q : -32000000 ≤ n.q ∧ n.q ≤ 32000000
  r : -320000 ≤ n.r ∧ n.r ≤ 320000
theorem NB.of {R : List Rw} (h : RB 400 200 R) (hl : R.length ≤ 24) : NB (nm R) := by
  have hl' : (R.length : Int) ≤ 24 := by omega
  constructor
  · exact smb _ 160000 24 _ (by decide) R (fun r hr => mulc _ (h r hr).1 (h r hr).1 (by decide)) hl' (by decide)
  · exact smb _ 80000 24 _ (by decide) R (fun r hr => mulc _ (h r hr).1 (h r hr).2.1 (by decide)) hl' (by decide)
  · exact smb _ 400 24 _ (by decide) R (fun r hr => mulc (B := 1) _ (h r hr).1 (by have := (h r hr).2.2.1; omega) (by decide)) hl' (by decide)
  · exact smb _ 40000 24 _ (by decide) R (fun r hr => mulc _ (h r hr).2.1 (h r hr).2.1 (by decide)) hl' (by decide)
  · exact smb _ 200 24 _ (by decide) R (fun r hr => mulc (B := 1) _ (h r hr).2.1 (by have := (h r hr).2.2.1; omega) (by decide)) hl' (by decide)
  · exact smb _ 1 24 _ (by decide) R (fun r hr => mulc (A := 1) (B := 1) _ (by have := (h r hr).2.2.1; omega) (by have := (h r hr).2.2.1; omega) (by decide)) hl' (by decide)
  · exact smb _ 6400000 24 _ (by decide) R (fun r hr => mulc _ (h r hr).1 (h r hr).2.2.2 (by decide)) hl' (by decide)
  · exact smb _ 3200000 24 _ (by decide) R (fun r hr => mulc _ (h r hr).2.1 (h r hr).2.2.2 (by decide)) hl' (by decide)
  · exact smb _ 16000 24 _ (by decide) R (fun r hr => mulc (A := 1) _ (by have := (h r hr).2.2.1; omega) (h r hr).2.2.2 (by decide)) hl' (by decide)
theorem SB.of {R : List Rw} (h : RB 400 100 R) (hl : R.length ≤ 20) : SB (nm R) := by
  have hl' : (R.length : Int) ≤ 20 := by omega
  constructor
  · exact smb _ 160000 20 _ (by decide) R (fun r hr => mulc _ (h r hr).1 (h r hr).1 (by decide)) hl' (by decide)
  · exact smb _ 40000 20 _ (by decide) R (fun r hr => mulc _ (h r hr).1 (h r hr).2.1 (by decide)) hl' (by decide)
  · exact smb _ 400 20 _ (by decide) R (fun r hr => mulc (B := 1) _ (h r hr).1 (by have := (h r hr).2.2.1; omega) (by decide)) hl' (by decide)
  · exact smb _ 10000 20 _ (by decide) R (fun r hr => mulc _ (h r hr).2.1 (h r hr).2.1 (by decide)) hl' (by decide)
  · exact smb _ 100 20 _ (by decide) R (fun r hr => mulc (B := 1) _ (h r hr).2.1 (by have := (h r hr).2.2.1; omega) (by decide)) hl' (by decide)
  · exact smb _ 1 20 _ (by decide) R (fun r hr => mulc (A := 1) (B := 1) _ (by have := (h r hr).2.2.1; omega) (by have := (h r hr).2.2.1; omega) (by decide)) hl' (by decide)
  · exact smb _ 6400000 20 _ (by decide) R (fun r hr => mulc _ (h r hr).1 (h r hr).2.2.2 (by decide)) hl' (by decide)
  · exact smb _ 1600000 20 _ (by decide) R (fun r hr => mulc _ (h r hr).2.1 (h r hr).2.2.2 (by decide)) hl' (by decide)
  · exact smb _ 16000 20 _ (by decide) R (fun r hr => mulc (A := 1) _ (by have := (h r hr).2.2.1; omega) (h r hr).2.2.2 (by decide)) hl' (by decide)
theorem SB.nb {n : Nm} (h : SB n) : NB n := by
  obtain ⟨h1, h2, h3, h4, h5, h6, h7, h8, h9⟩ := h
  constructor <;> omega
theorem nm_take (R : List Rw) (k : Nat) (h : k < R.length) : nm (R.take (k + 1)) = ⟨(nm (R.take k)).xx + (rw_ R k).x * (rw_ R k).x, (nm (R.take k)).xy + (rw_ R k).x * (rw_ R k).y, (nm (R.take k)).xz + (rw_ R k).x * (rw_ R k).z, (nm (R.take k)).yy + (rw_ R k).y * (rw_ R k).y,
    (nm (R.take k)).yz + (rw_ R k).y * (rw_ R k).z, (nm (R.take k)).zz + (rw_ R k).z * (rw_ R k).z, (nm (R.take k)).p + (rw_ R k).x * (rw_ R k).v, (nm (R.take k)).q + (rw_ R k).y * (rw_ R k).v, (nm (R.take k)).r + (rw_ R k).z * (rw_ R k).v⟩ := by
  unfold nm
  simp only [sm_take _ R k h]
  rfl
/-- Entries, cofactors, the fit's numerators as the program has them. -/
def entF (n : Nm) (i j : Int) : Int := [n.xx, n.xy, n.xz, n.xy, n.yy, n.yz, n.xz, n.yz, n.zz].getD (i.toNat * 3 + j.toNat) 0
def cofF (n : Nm) (a b : Int) : Int := entF n ((a + 1).tmod 3) ((b + 1).tmod 3) * entF n ((a + 2).tmod 3) ((b + 2).tmod 3) - entF n ((a + 1).tmod 3) ((b + 2).tmod 3) * entF n ((a + 2).tmod 3) ((b + 1).tmod 3)
theorem NB.ent {n : Nm} (h : NB n) (i j : Int) : -3840000 ≤ entF n i j ∧ entF n i j ≤ 3840000 := by
  obtain ⟨h1, h2, h3, h4, h5, h6, h7, h8, h9⟩ := h
  unfold entF
  generalize i.toNat * 3 + j.toNat = k
  rcases k with _ | _ | _ | _ | _ | _ | _ | _ | _ | k <;> simp [List.getD] <;> omega
theorem NB.c00 {n : Nm} (h : NB n) : -46080000 ≤ cofF n 0 0 ∧ cofF n 0 0 ≤ 46080000 := by
  have e : cofF n 0 0 = n.yy * n.zz - n.yz * n.yz := rfl
  have := mulc 23040000 h.yy h.zz (by decide)
  have := mulc 23040000 h.yz h.yz (by decide)
  omega
theorem NB.c01 {n : Nm} (h : NB n) : -92160000 ≤ cofF n 0 1 ∧ cofF n 0 1 ≤ 92160000 := by
  have e : cofF n 0 1 = n.yz * n.xz - n.xy * n.zz := rfl
  have := mulc 46080000 h.yz h.xz (by decide)
  have := mulc 46080000 h.xy h.zz (by decide)
  omega
theorem NB.c10 {n : Nm} (h : NB n) : -92160000 ≤ cofF n 1 0 ∧ cofF n 1 0 ≤ 92160000 := by
  have e : cofF n 1 0 = n.yz * n.xz - n.zz * n.xy := rfl
  have := mulc 46080000 h.yz h.xz (by decide)
  have := mulc 46080000 h.zz h.xy (by decide)
  omega
theorem NB.c02 {n : Nm} (h : NB n) : -18432000000 ≤ cofF n 0 2 ∧ cofF n 0 2 ≤ 18432000000 := by
  have e : cofF n 0 2 = n.xy * n.yz - n.yy * n.xz := rfl
  have := mulc 9216000000 h.xy h.yz (by decide)
  have := mulc 9216000000 h.yy h.xz (by decide)
  omega
theorem NB.c20 {n : Nm} (h : NB n) : -18432000000 ≤ cofF n 2 0 ∧ cofF n 2 0 ≤ 18432000000 := by
  have e : cofF n 2 0 = n.xy * n.yz - n.xz * n.yy := rfl
  have := mulc 9216000000 h.xy h.yz (by decide)
  have := mulc 9216000000 h.xz h.yy (by decide)
  omega
theorem NB.c11 {n : Nm} (h : NB n) : -184320000 ≤ cofF n 1 1 ∧ cofF n 1 1 ≤ 184320000 := by
  have e : cofF n 1 1 = n.zz * n.xx - n.xz * n.xz := rfl
  have := mulc 92160000 h.zz h.xx (by decide)
  have := mulc 92160000 h.xz h.xz (by decide)
  omega
theorem NB.c12 {n : Nm} (h : NB n) : -36864000000 ≤ cofF n 1 2 ∧ cofF n 1 2 ≤ 36864000000 := by
  have e : cofF n 1 2 = n.xz * n.xy - n.yz * n.xx := rfl
  have := mulc 18432000000 h.xz h.xy (by decide)
  have := mulc 18432000000 h.yz h.xx (by decide)
  omega
theorem NB.c21 {n : Nm} (h : NB n) : -36864000000 ≤ cofF n 2 1 ∧ cofF n 2 1 ≤ 36864000000 := by
  have e : cofF n 2 1 = n.xz * n.xy - n.xx * n.yz := rfl
  have := mulc 18432000000 h.xz h.xy (by decide)
  have := mulc 18432000000 h.xx h.yz (by decide)
  omega
theorem NB.c22 {n : Nm} (h : NB n) : -7372800000000 ≤ cofF n 2 2 ∧ cofF n 2 2 ≤ 7372800000000 := by
  have e : cofF n 2 2 = n.xx * n.yy - n.xy * n.xy := rfl
  have := mulc 3686400000000 h.xx h.yy (by decide)
  have := mulc 3686400000000 h.xy h.xy (by decide)
  omega
theorem det_cof (n : Nm) : n.xx * cofF n 0 0 + n.xy * cofF n 0 1 + n.xz * cofF n 0 2 = n.det := by
  show n.xx * (n.yy * n.zz - n.yz * n.yz) + n.xy * (n.yz * n.xz - n.xy * n.zz) + n.xz * (n.xy * n.yz - n.yy * n.xz) = _
  unfold Nm.det
  grind
def fitF (n : Nm) (p : Int) : Int := cofF n 0 p * n.p + cofF n 1 p * n.q + cofF n 2 p * n.r
theorem NB.fit0 {n : Nm} (h : NB n) : -30000000000000000 ≤ fitF n 0 ∧ fitF n 0 ≤ 30000000000000000 := by
  have := mulc 10000000000000000 h.c00 h.p (by decide)
  have := mulc 10000000000000000 h.c10 h.q (by decide)
  have := mulc 10000000000000000 h.c20 h.r (by decide)
  unfold fitF
  omega
theorem NB.fit1 {n : Nm} (h : NB n) : -60000000000000000 ≤ fitF n 1 ∧ fitF n 1 ≤ 60000000000000000 := by
  have := mulc 20000000000000000 h.c01 h.p (by decide)
  have := mulc 20000000000000000 h.c11 h.q (by decide)
  have := mulc 20000000000000000 h.c21 h.r (by decide)
  unfold fitF
  omega
theorem NB.fit2 {n : Nm} (h : NB n) : -8700000000000000000 ≤ fitF n 2 ∧ fitF n 2 ≤ 8700000000000000000 := by
  have := mulc 2900000000000000000 h.c02 h.p (by decide)
  have := mulc 2900000000000000000 h.c12 h.q (by decide)
  have := mulc 2900000000000000000 h.c22 h.r (by decide)
  unfold fitF
  omega
theorem NB.detb {n : Nm} (h : NB n) : -600000000000000 ≤ n.det ∧ n.det ≤ 600000000000000 := by
  have := mulc 200000000000000 h.xx h.c00 (by decide)
  have := mulc 200000000000000 h.xy h.c01 (by decide)
  have := mulc 200000000000000 h.xz h.c02 (by decide)
  rw [← det_cof]
  omega
end Go.Sr
namespace Go.Sr
theorem rw_prod {x y z v : Int} (h : (-400 ≤ x ∧ x ≤ 400) ∧ (-200 ≤ y ∧ y ≤ 200) ∧ (0 ≤ z ∧ z ≤ 1) ∧ -16000 ≤ v ∧ v ≤ 16000) :
    (-160000 ≤ x * x ∧ x * x ≤ 160000) ∧ (-80000 ≤ x * y ∧ x * y ≤ 80000) ∧ (-400 ≤ x * z ∧ x * z ≤ 400) ∧ (-80000 ≤ y * x ∧ y * x ≤ 80000) ∧ (-40000 ≤ y * y ∧ y * y ≤ 40000) ∧ (-200 ≤ y * z ∧ y * z ≤ 200) ∧
    (-400 ≤ z * x ∧ z * x ≤ 400) ∧ (-200 ≤ z * y ∧ z * y ≤ 200) ∧ (-1 ≤ z * z ∧ z * z ≤ 1) ∧ (-6400000 ≤ x * v ∧ x * v ≤ 6400000) ∧ (-3200000 ≤ y * v ∧ y * v ≤ 3200000) ∧ -16000 ≤ z * v ∧ z * v ≤ 16000 := by
  obtain ⟨h1, h2, h3, h4⟩ := h
  have h3' : -1 ≤ z ∧ z ≤ 1 := by omega
  exact ⟨mulc _ h1 h1 (by decide), mulc _ h1 h2 (by decide), mulc _ h1 h3' (by decide), mulc _ h2 h1 (by decide), mulc _ h2 h2 (by decide), mulc _ h2 h3' (by decide), mulc _ h3' h1 (by decide), mulc _ h3' h2 (by decide), mulc _ h3' h3' (by decide), mulc _ h1 h4 (by decide), mulc _ h2 h4 (by decide), mulc _ h3' h4 (by decide)⟩
end Go.Sr
namespace Go.Sr
theorem nameB_no {l : List UInt8} {k : Nat} (h : k < l.length) (hn : ¬ okN k (bv l k)) : nameB l = false := by
  unfold nameB; rw [decide_eq_false]; rintro ⟨_, _, h3⟩; exact hn (h3 k h)
theorem nameB_end {l : List UInt8} (h : ∀ j, j < l.length → okN j (bv l j)) : nameB l = decide (l.length ≠ 0 ∧ l.length ≤ 12) := by
  unfold nameB; congr 1; rw [eq_iff_iff]; exact ⟨fun ⟨a, b, _⟩ => ⟨a, b⟩, fun ⟨a, b⟩ => ⟨a, b, h⟩⟩
theorem nameB_big {l : List UInt8} (h : l.length < 1 ∨ 12 < l.length) : nameB l = false := by
  unfold nameB; rw [decide_eq_false]; rintro ⟨h1, h2, _⟩; omega
/-- Pairs of numbers, their sums. -/
def sp (f : Int × Int → Int) (L : List (Int × Int)) : Int := (L.map f).sum
def pr_ (L : List (Int × Int)) (k : Nat) : Int × Int := L.getD k (0, 0)
theorem sp_take (f : Int × Int → Int) (L : List (Int × Int)) (k : Nat) (h : k < L.length) : sp f (L.take (k + 1)) = sp f (L.take k) + f (pr_ L k) := by
  rw [List.take_add_one, List.getElem?_eq_getElem h, Option.toList_some]
  unfold pr_ sp
  rw [List.getD_eq_getElem?_getD, List.getElem?_eq_getElem h, List.map_append, List.sum_append]
  simp
theorem sp_bd (f : Int × Int → Int) (B : Int) (hB : 0 ≤ B) : ∀ (R : List (Int × Int)), (∀ r ∈ R, -B ≤ f r ∧ f r ≤ B) → -(B * R.length) ≤ sp f R ∧ sp f R ≤ B * R.length
  | [], _ => by simp [sp]
  | r :: R, h => by
    have h1 := sp_bd f B hB R fun q hq => h q (by simp [hq])
    have h2 := h r (by simp)
    have : sp f (r :: R) = f r + sp f R := rfl
    rw [this, List.length_cons, Int.natCast_add, Int.mul_add]
    omega
theorem spb (f : Int × Int → Int) (B N C : Int) (hB : 0 ≤ B) (R : List (Int × Int)) (h : ∀ r ∈ R, -B ≤ f r ∧ f r ≤ B) (hN : (R.length : Int) ≤ N) (hC : B * N ≤ C) : -C ≤ sp f R ∧ sp f R ≤ C := by
  have h1 := sp_bd f B hB R h
  have h2 : B * R.length ≤ B * N := Int.mul_le_mul_of_nonneg_left hN hB
  omega
def PB (L : List (Int × Int)) : Prop := ∀ r ∈ L, (-400 ≤ r.1 ∧ r.1 ≤ 400) ∧ -16000 ≤ r.2 ∧ r.2 ≤ 16000
theorem PB.at {L : List (Int × Int)} (h : PB L) (k : Nat) (hk : k < L.length) : (-400 ≤ (pr_ L k).1 ∧ (pr_ L k).1 ≤ 400) ∧ -16000 ≤ (pr_ L k).2 ∧ (pr_ L k).2 ≤ 16000 := by
  refine h _ ?_
  unfold pr_
  rw [List.getD_eq_getElem?_getD, List.getElem?_eq_getElem hk]
  exact List.getElem_mem hk
theorem PB.take {L : List (Int × Int)} (h : PB L) (k : Nat) : PB (L.take k) := fun r hr => h r (List.mem_of_mem_take hr)
/-- The four sums of a line. -/
structure Ln where
  x : Int
  y : Int
  xx : Int
  xy : Int
def ln (L : List (Int × Int)) : Ln := ⟨sp (fun r => r.1) L, sp (fun r => r.2) L, sp (fun r => r.1 * r.1) L, sp (fun r => r.1 * r.2) L⟩
structure LB (n : Ln) : Prop where
  x : -9600 ≤ n.x ∧ n.x ≤ 9600
  y : -384000 ≤ n.y ∧ n.y ≤ 384000
  xx : -3840000 ≤ n.xx ∧ n.xx ≤ 3840000
  xy : -153600000 ≤ n.xy ∧ n.xy ≤ 153600000
theorem LB.of {L : List (Int × Int)} (h : PB L) (hl : L.length ≤ 24) : LB (ln L) := by
  have hl' : (L.length : Int) ≤ 24 := by omega
  constructor
  · exact spb _ 400 24 _ (by decide) L (fun r hr => (h r hr).1) hl' (by decide)
  · exact spb _ 16000 24 _ (by decide) L (fun r hr => (h r hr).2) hl' (by decide)
  · exact spb _ 160000 24 _ (by decide) L (fun r hr => mulc _ (h r hr).1 (h r hr).1 (by decide)) hl' (by decide)
  · exact spb _ 6400000 24 _ (by decide) L (fun r hr => mulc _ (h r hr).1 (h r hr).2 (by decide)) hl' (by decide)
theorem ln_take (L : List (Int × Int)) (k : Nat) (h : k < L.length) : ln (L.take (k + 1)) = ⟨(ln (L.take k)).x + (pr_ L k).1, (ln (L.take k)).y + (pr_ L k).2, (ln (L.take k)).xx + (pr_ L k).1 * (pr_ L k).1, (ln (L.take k)).xy + (pr_ L k).1 * (pr_ L k).2⟩ := by
  unfold ln
  simp only [sp_take _ L k h]
def lnS (L : List (Int × Int)) : Int := L.length * (ln L).xy - (ln L).x * (ln L).y
def lnC (L : List (Int × Int)) : Int := (ln L).y * (ln L).xx - (ln L).x * (ln L).xy
def lnD (L : List (Int × Int)) : Int := L.length * (ln L).xx - (ln L).x * (ln L).x
theorem ln_prod {L : List (Int × Int)} (h : PB L) (hl : L.length ≤ 24) : (-3686400000 ≤ (L.length : Int) * (ln L).xy ∧ (L.length : Int) * (ln L).xy ≤ 3686400000) ∧ (-3686400000 ≤ (ln L).x * (ln L).y ∧ (ln L).x * (ln L).y ≤ 3686400000) ∧
    (-1474560000000 ≤ (ln L).y * (ln L).xx ∧ (ln L).y * (ln L).xx ≤ 1474560000000) ∧ (-1474560000000 ≤ (ln L).xx * (ln L).y ∧ (ln L).xx * (ln L).y ≤ 1474560000000) ∧ (-1474560000000 ≤ (ln L).x * (ln L).xy ∧ (ln L).x * (ln L).xy ≤ 1474560000000) ∧ (-92160000 ≤ (L.length : Int) * (ln L).xx ∧ (L.length : Int) * (ln L).xx ≤ 92160000) ∧ -92160000 ≤ (ln L).x * (ln L).x ∧ (ln L).x * (ln L).x ≤ 92160000 := by
  have hb := LB.of h hl
  have hl' : -24 ≤ (L.length : Int) ∧ (L.length : Int) ≤ 24 := by omega
  exact ⟨mulc _ hl' hb.xy (by decide), mulc _ hb.x hb.y (by decide), mulc _ hb.y hb.xx (by decide), mulc _ hb.xx hb.y (by decide), mulc _ hb.x hb.xy (by decide), mulc _ hl' hb.xx (by decide), mulc _ hb.x hb.x (by decide)⟩
end Go.Sr
