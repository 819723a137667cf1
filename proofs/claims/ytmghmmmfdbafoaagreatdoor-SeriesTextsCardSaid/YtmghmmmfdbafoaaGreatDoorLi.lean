/- Lines of a text, in plain Lean. -/
import Derived.Lib.IndexLaws
import Derived.Test.YtmghmmmfdbafoaaGreatDoorTx
set_option linter.unusedSimpArgs false
set_option linter.unusedVariables false
namespace Go.Tx
open Go.Lib
/-- The lines of a text, each with its end. -/
def linesOf : List UInt8 → List (List UInt8)
  | [] => []
  | b :: r => if b = 10 then [10] :: linesOf r else match linesOf r with
    | [] => [[b]]
    | p :: ps => (b :: p) :: ps
theorem lines_at : ∀ (l : List UInt8) (o : Nat), indexByte l 10 = (o : Int) → linesOf l = l.take (o + 1) :: linesOf (l.drop (o + 1))
  | [], o, h => by
    unfold indexByte at h
    omega
  | b :: r, o, h => by
    unfold indexByte at h
    by_cases hb : b = 10
    · subst hb
      rw [if_pos (by simp)] at h
      obtain rfl : o = 0 := by omega
      rw [linesOf, if_pos rfl]
      rfl
    · rw [if_neg (by simpa using hb)] at h
      by_cases hn : indexByte r 10 = -1
      · rw [if_pos (by simpa using hn)] at h
        omega
      · rw [if_neg (by simpa using hn)] at h
        obtain ⟨o', rfl⟩ : ∃ o', o = o' + 1 := ⟨o - 1, by have := indexByte_ge r 10; omega⟩
        have ih := lines_at r o' (by omega)
        rw [linesOf, if_neg hb, ih]
        rfl
theorem lines_none : ∀ (l : List UInt8), indexByte l 10 = -1 → l ≠ [] → linesOf l = [l]
  | [], h, hne => absurd rfl hne
  | b :: r, h, _ => by
    unfold indexByte at h
    have hb : b ≠ 10 := fun hb => by
      subst hb
      rw [if_pos (by simp)] at h
      omega
    rw [if_neg (by simpa using hb)] at h
    have hn : indexByte r 10 = -1 := by
      by_cases hn : indexByte r 10 = -1
      · exact hn
      · rw [if_neg (by simpa using hn)] at h
        have := indexByte_ge r 10
        omega
    rw [linesOf, if_neg hb]
    by_cases hr : r = []
    · subst hr
      rfl
    · rw [lines_none r hn hr]
/-- A number of at most so many digits. -/
def numD (D : Nat) (p : List UInt8) : Option Int := if (bodyOf p).length ≤ D then numR p else none
theorem numD_no {D : Nat} {l : List UInt8} (h : numR l = none) : numD D l = none := by
  unfold numD
  rw [h]
  split <;> rfl
theorem numD_2 {D : Nat} {l : List UInt8} {a : Nat} (h : atR l a) (hl : D < l.length - a) : numD D l = none := by
  unfold numD
  rw [(head_at h).2, List.length_drop, if_neg (by omega)]
theorem numD_5 {D : Nat} {l : List UInt8} {a : Nat} (h : atR l a) (hl : l.length - a ≤ D) : numD D l = numR l := by
  unfold numD
  rw [(head_at h).2, List.length_drop, if_pos hl]
theorem itoa_len (v : Int) (h0 : -9223372036854775808 ≤ v) (h1 : v ≤ 9223372036854775807) : (itoa v).length ≤ 20 := by
  have key : ∀ (k u : Nat), u < 10 ^ (k + 1) → (decDigits u).length ≤ k + 1 := by
    intro k
    induction k with
    | zero => intro u hu; rw [dec_lt (by simpa using hu)]; simp
    | succ k ih =>
      intro u hu
      by_cases hs : u < 10
      · rw [dec_lt hs]; simp
      · rw [dec_ge hs, List.length_append]
        have := ih (u / 10) (by rw [Nat.pow_succ] at hu; omega)
        simp
        omega
  unfold itoa
  split
  · have := key 18 v.natAbs (by omega)
    simp
    omega
  · have := key 18 v.toNat (by omega)
    omega
end Go.Tx
