/- Chapter 2: between the elder walks and the small memory. -/
import Derived.Test.YthpjhpfebjjanaaAb
import Derived.Test.Ythpjhpfebjjanaa02i
import Derived.Test.Ythpjhpfebjjanaa02Own
set_option linter.unusedSimpArgs false
set_option linter.unusedVariables false
namespace Go.Proofs.Ythpjhpfebjjanaa
open Go Go.RowKit Go.Ob Go.Ab

theorem flatS_scal (l : List St) : (flatS l).all scal = true := List.all_eq_true.2 fun u hu => by
  obtain ⟨s, _, h⟩ := List.mem_flatMap.1 hu
  simp only [stC, List.mem_cons, List.not_mem_nil, or_false] at h
  rcases h with rfl | rfl | rfl | rfl | rfl <;> rfl

/-- A place for the states of an orbit as it lies. -/
def ren1 (b off : Nat) : Ren := fun x => if x = 0 then some ⟨b, off, 0, 0⟩ else none

theorem mrel1 {w : World} {b off : Nat} {l : List St} (hS : HasSts w b off l) (hbw : b < w.heap.size) (h1 : 1 ≤ l.length) : MRel (ren1 b off) [some ⟨flatS l, false, 0⟩] w := by
  intro k blk hk
  have hk0 : k = 0 := by
    have := Mem.at_lt hk
    simp at this
    exact this
  subst hk0
  simp [Mem.at] at hk
  subst hk
  have hcell := hS.cells
  have h0 := hcell 0 (by omega)
  simp only [World.cell?] at h0
  cases ho : w.heap[b]? with
  | none => rw [ho] at h0; simp [List.getElem?_eq_getElem (show 0 < (flatS l).length by rw [flatS_len]; omega)] at h0
  | some o =>
    cases o with
    | cells c ty fr =>
      refine ⟨⟨b, off, 0, 0⟩, rfl, ⟨c, ty, fr, ho, rfl, fun i v hv => ?_, fun h => by cases h⟩, fun h => by cases h⟩
      have hi : i < l.length * 5 := by
        have := (List.getElem?_eq_some_iff.1 hv).1
        rwa [flatS_len] at this
      have := hcell i hi
      simp only [World.cell?, ho] at this
      rw [hv] at this
      refine ⟨v, by simpa [Nat.add_comm] using this, .scal (List.all_eq_true.1 (flatS_scal l) v (List.mem_of_getElem? hv))⟩
    | _ => rw [ho] at h0; simp [List.getElem?_eq_getElem (show 0 < (flatS l).length by rw [flatS_len]; omega)] at h0

/-- A state, read from the states of an orbit. -/
theorem ld_st {m : Mem} {b : Nat} {blk : Blk} {l : List St} (hb : m.at b = some blk) (hc : blk.cells = flatS l) (k : Nat) (hk : k < l.length) : m.ld b (k * 5) 5 = some (stC (at_ l k)) := by
  have hlen : (flatS l).length = l.length * 5 := flatS_len l
  have hmul : k * 5 + 5 ≤ l.length * 5 := by omega
  unfold Mem.ld
  rw [hb]
  simp only [hc, hlen]
  rw [if_pos (by omega)]
  congr 1
  refine List.ext_getElem? fun i => ?_
  rcases Nat.lt_or_ge i 5 with hi | hi
  · rw [List.getElem?_take_of_lt hi, List.getElem?_drop, flatS_get l k i hi hk]
  · rw [List.getElem?_eq_none (by simp; omega), List.getElem?_eq_none (by simp [stC]; omega)]
end Go.Proofs.Ythpjhpfebjjanaa
