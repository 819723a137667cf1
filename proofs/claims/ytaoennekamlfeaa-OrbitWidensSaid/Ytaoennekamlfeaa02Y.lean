/- OrbitWidens: the copy's states as the loop widens them; an argument of type Wider, read. -/
import Derived.Test.Ytaoennekamlfeaa02X
import Derived.Test.Ytaoennekamlfeaa02Claim
set_option linter.unusedSimpArgs false
set_option linter.unusedVariables false
namespace Go.Proofs.Ytaoennekamlfeaa
open Go.ChangeShapes Go.WideShapes Go.ChangeAt Go.RowKit Go.Ob

def widTo (we : Int) (l : List St) (k : Nat) : List St := (l.take k).map (wid we) ++ l.drop k
theorem widTo_zero (we : Int) (l : List St) : widTo we l 0 = l := by simp [widTo]
theorem widTo_all {we : Int} {l : List St} {k : Nat} (h : l.length ≤ k) : widTo we l k = l.map (wid we) := by simp [widTo, List.take_of_length_le h, List.drop_eq_nil_of_le h]
theorem widTo_len (we : Int) (l : List St) (k : Nat) : (widTo we l k).length = l.length := by simp [widTo]; omega
theorem at_drop {l : List St} {k : Nat} (h : k < l.length) : l.drop k = at_ l k :: l.drop (k + 1) := by
  rw [List.drop_eq_getElem_cons h]
  simp [at_, h]
theorem flatS_set {we : Int} {l : List St} {k : Nat} (h : k < l.length) : (flatS (widTo we l k)).set (k * 5 + 4) (.int .i64 ((at_ l k).e + we)) = flatS (widTo we l (k + 1)) := by
  have h1 : (flatS ((l.take k).map (wid we))).length = k * 5 := by rw [flatS_len]; simp; omega
  have h2 : l.take (k + 1) = l.take k ++ [at_ l k] := by rw [List.take_add_one]; simp [at_, h]
  have e1 : flatS (widTo we l k) = flatS ((l.take k).map (wid we)) ++ (stC (at_ l k) ++ flatS (l.drop (k + 1))) := by
    unfold widTo flatS
    rw [List.flatMap_append, at_drop h, List.flatMap_cons]
  have e2 : flatS (widTo we l (k + 1)) = flatS ((l.take k).map (wid we)) ++ (stC (wid we (at_ l k)) ++ flatS (l.drop (k + 1))) := by
    unfold widTo flatS
    rw [List.flatMap_append, h2]
    simp
  rw [e1, e2, List.set_append_right _ _ (by omega), show k * 5 + 4 - (flatS ((l.take k).map (wid we))).length = 4 by omega]
  rfl

theorem at_widTo {we : Int} {l : List St} {k : Nat} (h : k < l.length) : at_ (widTo we l k) k = at_ l k := by
  unfold widTo at_
  rw [List.getD_eq_getElem?_getD, List.getD_eq_getElem?_getD, List.getElem?_append_right (by simp; omega)]
  simp [List.getElem?_drop, show min k l.length = k by omega]

theorem cells_wd : Try.prog.cellsOf 53 = 2 := by kernel_rfl
theorem ints_wd : intsT Try.prog 3 53 = true := by kernel_rfl
set_option maxRecDepth 100000 in
theorem open_wider {H : Type} {enc : TypeId × Value → H} {w : World} {base : Nat} {spare : Nat → Bool} {held : Bool} {r : Reach} {b0 : Nat} {v : Value} {d : DataW H} {p : List MemPlace} (hv : Value.okWide Try.prog w r b0 53 v) (h : DataW.Trod enc Try.prog w base spare held 53 v d p) :
    ∃ x y, v = .agg #[.int .i64 x, .int .i64 y] ∧ (-9223372036854775808 ≤ x ∧ x ≤ 9223372036854775807) ∧ (-9223372036854775808 ≤ y ∧ y ≤ 9223372036854775807) := by
  obtain ⟨cs, rfl, hsz⟩ := okWide_struct Try.underlying53 hv
  obtain ⟨l⟩ := cs
  obtain ⟨fuel, hf⟩ := h
  have hi := ints_of 3 _ _ _ _ ints_wd hf
  match l, hsz.trans cells_wd, hi with
  | [c0, c1], _, hi =>
    obtain ⟨x, rfl, hx⟩ := hi c0 (by simp [Value.cells])
    obtain ⟨y, rfl, hy⟩ := hi c1 (by simp [Value.cells])
    exact ⟨x, y, rfl, wf_bd hx, wf_bd hy⟩
end Go.Proofs.Ytaoennekamlfeaa
