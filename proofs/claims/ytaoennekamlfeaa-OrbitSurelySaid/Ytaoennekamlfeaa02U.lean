/- Chapter 2, plain: a place drawn in each tick's box is nearest at a tick of a granted range. -/
import Derived.Test.Ytaoennekamlfeaa02S
set_option linter.unusedSimpArgs false
set_option linter.unusedVariables false
namespace Go.Proofs.Ytaoennekamlfeaa
open Go.RowKit Go.Ob

theorem cnAny_all {f : Int → Bool} {a : Int} {N : Nat} (h : cnAny f a N = false) {k : Nat} (hk : k < N) : f (a + k) = false := by
  cases hf : f (a + k) with
  | false => rfl
  | true => rw [cnAny_true hk hf] at h; cases h

structure CnOk (bd : Int) (l : List St) (x y z lo hi wi : Int) : Prop where
  lo0 : frstT l ≤ lo
  hi1 : hi ≤ lastT l
  wi0 : frstT l ≤ wi
  wi1 : wi ≤ lastT l
  lohi : lo ≤ hi
  steps : (cnR bd l x y z lo hi wi).1 = hi - lo + 1
  out : ∀ t, frstT l ≤ t → t ≤ lastT l → lsq bd l x y z t ≤ hsq bd l x y z wi → lo ≤ t ∧ t ≤ hi

theorem cn_ok {bd : Int} {l : List St} {x y z lo hi wi : Int} (hR : Right bd l) (h : (cnR bd l x y z lo hi wi).2 = 0) : CnOk bd l x y z lo hi wi := by
  have hl := hR.n2
  have hfl : frstT l ≤ lastT l := hR.le 0 (l.length - 1) (by omega) (by omega)
  have hN : (nTicks l : Int) = lastT l + 1 - frstT l := by unfold nTicks; omega
  rcases @rng_cases lo hi wi (frstT l) (lastT l) with hr | ⟨h1, h2, h3⟩
  · rw [cnR_rng hr] at h; simp at h
  · by_cases hlt : hi < lo
    · rw [cnR_ord h1 h2 h3 hlt] at h; simp at h
    · have e : cnR bd l x y z lo hi wi = if cnAny (cnBad bd l x y z lo hi (sqHi (bx bd l wi) x y z)) (frstT l) (nTicks l) = true then (0, 22) else (hi - lo + 1, 0) := by
        unfold cnR; rw [if_neg (by rw [h1, h2, h3]; simp), if_neg hlt]
      cases ha : cnAny (cnBad bd l x y z lo hi (sqHi (bx bd l wi) x y z)) (frstT l) (nTicks l) with
      | true => rw [e, ha] at h; simp at h
      | false =>
        rw [rngB_true] at h1 h2 h3
        refine ⟨h1.1, h2.2, h3.1, h3.2, by omega, by rw [e, ha]; simp, fun t t0 t1 hs => ?_⟩
        have := cnAny_all ha (k := (t - frstT l).toNat) (by omega)
        rw [show frstT l + ((t - frstT l).toNat : Int) = t by omega] at this
        unfold cnBad at this
        rw [decide_eq_true (show sqLo (bx bd l t) x y z ≤ sqHi (bx bd l wi) x y z from hs)] at this
        exact rngB_true.1 (by simpa using this)

/-- The place that is chosen at a tick. -/
def surP (bd : Int) (l : List St) (L : List P3) (t : Int) : P3 :=
  ⟨chs (bx bd l t).l0 (bx bd l t).h0 (ch_ L (t % (L.length : Int)).toNat).x, chs (bx bd l t).l1 (bx bd l t).h1 (ch_ L (t % (L.length : Int)).toNat).y, chs (bx bd l t).l2 (bx bd l t).h2 (ch_ L (t % (L.length : Int)).toNat).z⟩
def sur (bd : Int) (l : List St) (L : List P3) (x y z t : Int) : Int := dsq (surP bd l L t) x y z

theorem sur_in {bd : Int} {l : List St} {L : List P3} {x y z t : Int} (hR : Right bd l) (h0 : frstT l ≤ t) (h1 : t ≤ lastT l) : lsq bd l x y z t ≤ sur bd l L x y z t ∧ sur bd l L x y z t ≤ hsq bd l x y z t := by
  have hb := bx_ok hR h0 h1
  have a := chs_in (c := (ch_ L (t % (L.length : Int)).toNat).x) hb.l01
  have b := chs_in (c := (ch_ L (t % (L.length : Int)).toNat).y) hb.l11
  have c := chs_in (c := (ch_ L (t % (L.length : Int)).toNat).z) hb.l21
  exact sums_in (q := bx bd l t) (p := surP bd l L t) ⟨a.1, a.2.1⟩ ⟨b.1, b.2.1⟩ ⟨c.1, c.2.1⟩

theorem surely_in {bd : Int} {l : List St} {L : List P3} {x y z lo hi wi : Int} (hR : Right bd l) (hx : -100000000 ≤ x ∧ x ≤ 100000000) (hy : -100000000 ≤ y ∧ y ≤ 100000000) (hz : -100000000 ≤ z ∧ z ≤ 100000000) (h : (cnR bd l x y z lo hi wi).2 = 0) :
    lo ≤ (nearTo (sur bd l L x y z) (frstT l) (nTicks l)).1 ∧ (nearTo (sur bd l L x y z) (frstT l) (nTicks l)).1 ≤ hi := by
  have C := cn_ok hR h
  have w0 := C.wi0
  have w1 := C.wi1
  have hl := hR.n2
  have hfl : frstT l ≤ lastT l := hR.le 0 (l.length - 1) (by omega) (by omega)
  have hN : (nTicks l : Int) = lastT l + 1 - frstT l := by unfold nTicks; omega
  obtain ⟨i0, ⟨j, hj, ej⟩, i2⟩ := nearTo_min (f := sur bd l L x y z) (a := frstT l) (N := nTicks l) (fun k hk => by
    have a := sur_in (L := L) (x := x) (y := y) (z := z) hR (t := frstT l + k) (by omega) (by omega)
    have b := sq_lh hR (t := frstT l + k) (by omega) (by omega) hx hy hz
    omega) (nTicks l) (Nat.le_refl _) (by omega)
  rw [ej] at i2 ⊢
  simp only at i2 ⊢
  refine C.out _ (by omega) (by omega) ?_
  have a := sur_in (L := L) (x := x) (y := y) (z := z) hR (t := frstT l + j) (by omega) (by omega)
  have b := sur_in (L := L) (x := x) (y := y) (z := z) hR w0 w1
  have c := i2 (wi - frstT l).toNat (by omega)
  rw [show frstT l + ((wi - frstT l).toNat : Int) = wi by omega] at c
  omega
end Go.Proofs.Ytaoennekamlfeaa
