/- Chapter 2, plain: wider errors and a wider bound give a wider box, and the same nominal place. -/
import Derived.Test.Ytaoennekamlfeaa02x
set_option linter.unusedSimpArgs false
set_option linter.unusedVariables false
namespace Go.Proofs.Ytaoennekamlfeaa
open Go.RowKit Go.Ob

def wid (we : Int) (s : St) : St := ⟨s.t, s.x, s.y, s.z, s.e + we⟩
theorem at_wid {we : Int} {l : List St} {k : Nat} (h : k < l.length) : at_ (l.map (wid we)) k = wid we (at_ l k) := by
  unfold at_
  simp [h]
theorem kUp_wid {we : Int} {l : List St} {t : Int} : ∀ (f k : Nat), kUp (l.map (wid we)) t f k = kUp l t f k
  | 0, _ => rfl
  | f + 1, k => by
    simp only [kUp, List.length_map]
    by_cases h : k + 2 < l.length
    · rw [at_wid (by omega), kUp_wid f (k + 1)]
      rfl
    · rw [if_neg (fun c => h c.1), if_neg (fun c => h c.1)]
theorem kR_wid {we : Int} {l : List St} {t : Int} : kR (l.map (wid we)) t = kR l t := by
  unfold kR
  rw [kUp_wid, List.length_map]

theorem dn_mono {n o o' d : Int} (hd : 1 ≤ d) (h : o ≤ o') : dn n o' d ≤ dn n o d ∧ up n o d ≤ up n o' d := by
  unfold dn up
  have a := Int.ediv_le_ediv (show 0 < d by omega) (show n - o' ≤ n - o by omega)
  have b := Int.ediv_le_ediv (show 0 < d by omega) (show -(n + o') ≤ -(n + o) by omega)
  exact ⟨a, by omega⟩

structure Bx.In (p q : Bx) : Prop where
  a0 : q.l0 ≤ p.l0
  a1 : p.h0 ≤ q.h0
  b0 : q.l1 ≤ p.l1
  b1 : p.h1 ≤ q.h1
  c0 : q.l2 ≤ p.l2
  c1 : p.h2 ≤ q.h2

theorem frst_wid {we : Int} {l : List St} (h : 2 ≤ l.length) : frstT (l.map (wid we)) = frstT l := by
  show (at_ (l.map (wid we)) 0).t = (at_ l 0).t
  rw [at_wid (by omega)]
  rfl
theorem last_wid {we : Int} {l : List St} (h : 2 ≤ l.length) : lastT (l.map (wid we)) = lastT l := by
  show (at_ (l.map (wid we)) ((l.map (wid we)).length - 1)).t = (at_ l (l.length - 1)).t
  rw [List.length_map, at_wid (by omega)]
  rfl

theorem bx_wid {bd wb we : Int} {l : List St} {t : Int} (hR : Right bd l) (hR' : Right (bd + wb) (l.map (wid we))) (hw : 0 ≤ we) (hb : 0 ≤ wb) (h0 : frstT l ≤ t) (h1 : t ≤ lastT l) :
    Bx.In (bx bd l t) (bx (bd + wb) (l.map (wid we)) t) ∧ nom (l.map (wid we)) t = nom l t := by
  have hn := hR.n2
  have s := same_place hR h0 h1
  have s' := same_place hR' (t := t) (by rw [frst_wid hn]; exact h0) (by rw [last_wid hn]; exact h1)
  obtain ⟨hk1, hk2, hk3⟩ := kR_spec hR h0 h1
  have hup := hR.up (kR l t) hk1
  have eP : ptR (bd + wb) (l.map (wid we)) t = prR (bd + wb) (wid we (at_ l (kR l t))) (wid we (at_ l (kR l t + 1))) t := by
    unfold ptR
    rw [kR_wid, at_wid (by omega), at_wid hk1]
  rw [← s.1, ← s.2, ← s'.1, ← s'.2, eP]
  unfold ptR
  generalize at_ l (kR l t) = a at *
  generalize at_ l (kR l t + 1) = b at *
  have e1 := Int.mul_le_mul_of_nonneg_right (show a.e ≤ a.e + we by omega) (show 0 ≤ b.t - a.t - (t - a.t) by omega)
  have e2 := Int.mul_le_mul_of_nonneg_right (show b.e ≤ b.e + we by omega) (show 0 ≤ t - a.t by omega)
  have e3 := Int.mul_le_mul_of_nonneg_right (show bd ≤ bd + wb by omega) (show 0 ≤ b.t - a.t by omega)
  have ho : (prR bd a b t).wrong + (prR bd a b t).bend ≤ (prR (bd + wb) (wid we a) (wid we b) t).wrong + (prR (bd + wb) (wid we a) (wid we b) t).bend := by
    simp only [prR, wid]
    split <;> omega
  have hd : 1 ≤ b.t - a.t := by omega
  have f := fun n => dn_mono (n := n) hd ho
  refine ⟨⟨(f _).1, (f _).2, (f _).1, (f _).2, (f _).1, (f _).2⟩, rfl⟩
end Go.Proofs.Ytaoennekamlfeaa
