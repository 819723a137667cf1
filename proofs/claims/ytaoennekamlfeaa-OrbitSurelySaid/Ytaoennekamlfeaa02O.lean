/- Chapter 2, plain: the tick that is nearest at most, and the ticks that may be nearest. -/
import Derived.Test.Ytaoennekamlfeaa02B
import Derived.Test.Ytaoennekamlfeaa02T
set_option linter.unusedSimpArgs false
set_option linter.unusedVariables false
namespace Go.Proofs.Ytaoennekamlfeaa
open Go.RowKit Go.Ob

def hsq (bd : Int) (l : List St) (x y z t : Int) : Int := sqHi (bx bd l t) x y z
def lsq (bd : Int) (l : List St) (x y z t : Int) : Int := sqLo (bx bd l t) x y z
/-- First and last tick whose least square is within m, as the program finds them; (-1, 0) where there is none. -/
def rgTo (g : Int → Int) (m a : Int) : Nat → Int × Int
  | 0 => (-1, 0)
  | k + 1 => if g (a + k) ≤ m then (if (rgTo g m a k).1 < 0 then a + k else (rgTo g m a k).1, a + k) else rgTo g m a k
/-- The same as the reference finds them, from a tick b. -/
def rrTo (g : Int → Int) (m a b : Int) : Nat → Int × Int
  | 0 => (b, b)
  | k + 1 => if g (a + k) ≤ m then (imn (rrTo g m a b k).1 (a + k), imx (rrTo g m a b k).2 (a + k)) else rrTo g m a b k
theorem rgTo_zero (g : Int → Int) (m a : Int) : rgTo g m a 0 = (-1, 0) := rfl
theorem rrTo_zero (g : Int → Int) (m a b : Int) : rrTo g m a b 0 = (b, b) := rfl
theorem rgTo_new {g : Int → Int} {m a : Int} {k : Nat} (h : g (a + k) ≤ m) (h2 : (rgTo g m a k).1 < 0) : rgTo g m a (k + 1) = (a + k, a + k) := by simp only [rgTo]; rw [if_pos h, if_pos h2]
theorem rgTo_more {g : Int → Int} {m a : Int} {k : Nat} (h : g (a + k) ≤ m) (h2 : ¬ (rgTo g m a k).1 < 0) : rgTo g m a (k + 1) = ((rgTo g m a k).1, a + k) := by simp only [rgTo]; rw [if_pos h, if_neg h2]
theorem rgTo_no {g : Int → Int} {m a : Int} {k : Nat} (h : ¬ g (a + k) ≤ m) : rgTo g m a (k + 1) = rgTo g m a k := by simp only [rgTo]; rw [if_neg h]
theorem rrTo_yes {g : Int → Int} {m a b : Int} {k : Nat} (h : g (a + k) ≤ m) : rrTo g m a b (k + 1) = (imn (rrTo g m a b k).1 (a + k), imx (rrTo g m a b k).2 (a + k)) := by simp only [rrTo]; rw [if_pos h]
theorem rrTo_no {g : Int → Int} {m a b : Int} {k : Nat} (h : ¬ g (a + k) ≤ m) : rrTo g m a b (k + 1) = rrTo g m a b k := by simp only [rrTo]; rw [if_neg h]

theorem nearTo_min {f : Int → Int} {a : Int} {N : Nat} (h0 : ∀ k : Nat, k < N → 0 ≤ f (a + k)) : ∀ k : Nat, k ≤ N → 0 < k → 0 ≤ (nearTo f a k).2 ∧ (∃ j : Nat, j < k ∧ nearTo f a k = (a + j, f (a + j))) ∧ ∀ j : Nat, j < k → (nearTo f a k).2 ≤ f (a + j)
  | 0, _, h => by omega
  | k + 1, hk, _ => by
    have hf := h0 k (by omega)
    by_cases e : k = 0
    · subst e
      rw [nearTo_yes (.inl (by simp [nearTo]))]
      exact ⟨hf, ⟨0, by omega, rfl⟩, fun j hj => by rw [show j = 0 by omega]; exact Int.le_refl _⟩
    · obtain ⟨i0, ⟨j, hj, ej⟩, i2⟩ := nearTo_min h0 k (by omega) (by omega)
      by_cases c : (nearTo f a k).2 < 0 ∨ f (a + k) < (nearTo f a k).2
      · rw [nearTo_yes c]
        refine ⟨hf, ⟨k, by omega, rfl⟩, fun j' hj' => ?_⟩
        rcases (by omega : j' = k ∨ j' < k) with rfl | h'
        · exact Int.le_refl _
        · have := i2 j' h'; simp only; omega
      · rw [nearTo_no c]
        refine ⟨i0, ⟨j, by omega, ej⟩, fun j' hj' => ?_⟩
        rcases (by omega : j' = k ∨ j' < k) with rfl | h'
        · omega
        · exact i2 j' h'

theorem rg_rr {g : Int → Int} {m a b : Int} (ha : 0 ≤ a) (hab : a ≤ b) (hgb : g b ≤ m) : ∀ k : Nat,
    ((rgTo g m a k).1 < 0 → a + k ≤ b ∧ rrTo g m a b k = (b, b)) ∧
    (0 ≤ (rgTo g m a k).1 → a ≤ (rgTo g m a k).1 ∧ (rgTo g m a k).1 ≤ (rgTo g m a k).2 ∧ (rgTo g m a k).2 < a + k ∧ (b < a + k → (rgTo g m a k).1 ≤ b ∧ b ≤ (rgTo g m a k).2) ∧ rrTo g m a b k = (imn (rgTo g m a k).1 b, imx (rgTo g m a k).2 b)) ∧
    (∀ j : Nat, j < k → g (a + j) ≤ m → 0 ≤ (rgTo g m a k).1 ∧ (rgTo g m a k).1 ≤ a + j ∧ a + j ≤ (rgTo g m a k).2)
  | 0 => ⟨fun _ => ⟨by omega, rfl⟩, fun h => by simp [rgTo] at h, fun j hj => by omega⟩
  | k + 1 => by
    obtain ⟨i1, i2, i3⟩ := rg_rr ha hab hgb k
    by_cases c : g (a + k) ≤ m
    · by_cases c2 : (rgTo g m a k).1 < 0
      · rw [rgTo_new c c2, rrTo_yes c, (i1 c2).2]
        have := (i1 c2).1
        refine ⟨fun h => by simp only at h; omega, fun _ => ⟨by simp only; omega, by simp only; omega, by simp only; omega, fun _ => ⟨by simp only; omega, by simp only; omega⟩, ?_⟩, fun j hj hg => ?_⟩
        · simp only [imn, imx, Prod.mk.injEq]; constructor <;> (repeat' split) <;> omega
        · rcases (by omega : j = k ∨ j < k) with rfl | h'
          · exact ⟨by simp only; omega, by simp only; omega, by simp only; omega⟩
          · have := i3 j h' hg; omega
      · rw [rgTo_more c c2, rrTo_yes c, (i2 (by omega)).2.2.2.2]
        obtain ⟨p1, p2, p3, p4, -⟩ := i2 (by omega)
        refine ⟨fun h => by simp only at h; omega, fun _ => ⟨by simp only; omega, by simp only; omega, by simp only; omega, fun h => ⟨?_, ?_⟩, ?_⟩, fun j hj hg => ?_⟩
        · simp only
          by_cases hb : b < a + k
          · exact (p4 hb).1
          · omega
        · simp only; omega
        · simp only [imn, imx, Prod.mk.injEq]; constructor <;> (repeat' split) <;> omega
        · rcases (by omega : j = k ∨ j < k) with rfl | h'
          · exact ⟨by simp only; omega, by simp only; omega, by simp only; omega⟩
          · have := i3 j h' hg; exact ⟨by simp only; omega, by simp only; omega, by simp only; omega⟩
    · rw [rgTo_no c, rrTo_no c]
      have hne : b ≠ a + k := fun e => c (e ▸ hgb)
      refine ⟨fun h => ⟨by have := (i1 h).1; omega, (i1 h).2⟩, fun h => ?_, fun j hj hg => ?_⟩
      · obtain ⟨p1, p2, p3, p4, p5⟩ := i2 h
        exact ⟨p1, p2, by omega, fun hb => p4 (by omega), p5⟩
      · rcases (by omega : j = k ∨ j < k) with rfl | h'
        · exact absurd hg c
        · exact i3 j h' hg

/-- The range of ticks at which the satellite may be nearest. -/
def mbB (bd : Int) (l : List St) (x y z : Int) : Int × Int := nearTo (hsq bd l x y z) (frstT l) (nTicks l)
def mbR (bd : Int) (l : List St) (x y z : Int) : Int × Int := rgTo (lsq bd l x y z) (mbB bd l x y z).2 (frstT l) (nTicks l)
structure MbOk (bd : Int) (l : List St) (x y z : Int) : Prop where
  ref : rrTo (lsq bd l x y z) (mbB bd l x y z).2 (frstT l) (mbB bd l x y z).1 (nTicks l) = mbR bd l x y z
  best : (mbB bd l x y z).2 = hsq bd l x y z (mbB bd l x y z).1
  least : ∀ t, frstT l ≤ t → t ≤ lastT l → (mbB bd l x y z).2 ≤ hsq bd l x y z t
  b0 : frstT l ≤ (mbB bd l x y z).1
  b1 : (mbB bd l x y z).1 ≤ lastT l
  r0 : frstT l ≤ (mbR bd l x y z).1
  r1 : (mbR bd l x y z).1 ≤ (mbB bd l x y z).1
  r2 : (mbB bd l x y z).1 ≤ (mbR bd l x y z).2
  r3 : (mbR bd l x y z).2 ≤ lastT l
  all : ∀ t, frstT l ≤ t → t ≤ lastT l → lsq bd l x y z t ≤ (mbB bd l x y z).2 → (mbR bd l x y z).1 ≤ t ∧ t ≤ (mbR bd l x y z).2

theorem sq_lh {bd : Int} {l : List St} {x y z t : Int} (hR : Right bd l) (h0 : frstT l ≤ t) (h1 : t ≤ lastT l) (hx : -100000000 ≤ x ∧ x ≤ 100000000) (hy : -100000000 ≤ y ∧ y ≤ 100000000) (hz : -100000000 ≤ z ∧ z ≤ 100000000) :
    0 ≤ lsq bd l x y z t ∧ lsq bd l x y z t ≤ dsq (nom l t) x y z ∧ dsq (nom l t) x y z ≤ hsq bd l x y z t ∧ hsq bd l x y z t ≤ 1000000000000000000 := by
  have hbx := bx_ok hR h0 h1
  obtain ⟨⟨s00, s01⟩, s10, s11⟩ := sq_sums hbx (x := x) (y := y) (z := z) (by omega) (by omega) (by omega)
  have hin := nom_in hR h0 h1
  rw [rngB_true, rngB_true, rngB_true] at hin
  have hsum := sums_in (x := x) (y := y) (z := z) hin.1.1 hin.1.2 hin.2
  exact ⟨s00, hsum.1, hsum.2, by unfold hsq; omega⟩

theorem mb_ok {bd : Int} {l : List St} {x y z : Int} (hR : Right bd l) (hx : -100000000 ≤ x ∧ x ≤ 100000000) (hy : -100000000 ≤ y ∧ y ≤ 100000000) (hz : -100000000 ≤ z ∧ z ≤ 100000000) : MbOk bd l x y z := by
  have hl := hR.n2
  have hfl : frstT l ≤ lastT l := hR.le 0 (l.length - 1) (by omega) (by omega)
  have ht0 : 0 ≤ frstT l := (hR.ok 0 (by omega)).t0
  have hN : (nTicks l : Int) = lastT l + 1 - frstT l := by unfold nTicks; omega
  obtain ⟨i0, ⟨j, hj, ej⟩, i2⟩ := nearTo_min (f := hsq bd l x y z) (a := frstT l) (N := nTicks l) (fun k hk => by have := sq_lh hR (t := frstT l + k) (by omega) (by omega) hx hy hz; omega) (nTicks l) (Nat.le_refl _) (by omega)
  have eB : mbB bd l x y z = (frstT l + j, hsq bd l x y z (frstT l + j)) := ej
  have hlb := sq_lh hR (t := frstT l + j) (by omega) (by omega) hx hy hz
  obtain ⟨p1, p2, p3⟩ := rg_rr (g := lsq bd l x y z) (m := (mbB bd l x y z).2) (a := frstT l) (b := frstT l + j) ht0 (by omega) (by rw [eB]; simp only; omega) (nTicks l)
  have hnn : 0 ≤ (mbR bd l x y z).1 := by
    by_cases h : 0 ≤ (mbR bd l x y z).1
    · exact h
    · have := (p1 (by unfold mbR at h; omega)).1; omega
  obtain ⟨q1, q2, q3, q4, q5⟩ := p2 hnn
  obtain ⟨q6, q7⟩ := q4 (by omega)
  refine ⟨?_, by rw [eB], fun t h0 h1 => ?_, by rw [eB]; simp only; omega, by rw [eB]; simp only; omega, q1, by rw [eB]; exact q6, by rw [eB]; exact q7, by unfold mbR; omega, fun t h0 h1 h2 => ?_⟩
  · rw [show (mbB bd l x y z).1 = frstT l + j by rw [eB], q5]
    unfold mbR
    unfold imn imx
    rw [if_neg (by omega), if_neg (by omega)]
  · have := i2 (t - frstT l).toNat (by omega)
    rw [show frstT l + ((t - frstT l).toNat : Int) = t by omega] at this
    exact this
  · have := p3 (t - frstT l).toNat (by omega) (by rw [show frstT l + ((t - frstT l).toNat : Int) = t by omega]; exact h2)
    rw [show frstT l + ((t - frstT l).toNat : Int) = t by omega] at this
    exact this.2

def mbOr (nm : List UInt8) (bd : Int) (l : List St) (x y z : Int) : Int × Int × Int := if plE nm bd l x y z = 0 then ((mbR bd l x y z).1, (mbR bd l x y z).2, (mbB bd l x y z).1) else (0, 0, 0)
end Go.Proofs.Ytaoennekamlfeaa
