/- Chapter 8: what lies in a box, in plain Lean. -/
import Derived.Test.Ytnocdnhhlppahaa08G
set_option linter.unusedSimpArgs false
set_option linter.unusedVariables false
namespace Go.Proofs.Ytnocdnhhlppahaa
open Go.ChangeShapes Go.WideShapes Go.ChangeAt Go Go.RowKit Go.Ab Go.Sr
set_option maxRecDepth 100000

theorem cells_G : Try.prog.cellsOf 50 = 2 := by kernel_rfl
theorem ints_G : intsT Try.prog 4 50 = true := by kernel_rfl
set_option maxRecDepth 100000 in
theorem open_G {H : Type} {enc : TypeId × Value → H} {w : World} {base : Nat} {spare : Nat → Bool} {held : Bool} {r : Reach} {b0 : Nat} {v : Value} {d : DataW H} {p : List MemPlace} (hv : Value.okWide Try.prog w r b0 50 v) (h : DataW.Trod enc Try.prog w base spare held 50 v d p) :
    ∃ x0 x1 : Int, v = .agg #[.int .i64 x0, .int .i64 x1] ∧ (-9223372036854775808 ≤ x0 ∧ x0 ≤ 9223372036854775807) ∧ (-9223372036854775808 ≤ x1 ∧ x1 ≤ 9223372036854775807) := by
  obtain ⟨cs, rfl, hsz⟩ := okWide_struct Try.underlying50 hv
  obtain ⟨l⟩ := cs
  obtain ⟨fuel, hf⟩ := h
  have hi := ints_of 4 _ _ _ _ ints_G hf
  match l, hsz.trans cells_G, hi with
  | [c0, c1], _, hi =>
    obtain ⟨x0, rfl, hx0⟩ := hi c0 (by simp [Value.cells])
    obtain ⟨x1, rfl, hx1⟩ := hi c1 (by simp [Value.cells])
    exact ⟨x0, x1, rfl, wf_bd hx0, wf_bd hx1⟩
/-- Four products' least and greatest: between them lies what is between the factors. -/
theorem mn4_le {a b c d : Int} : mn4 a b c d ≤ a ∧ mn4 a b c d ≤ b ∧ mn4 a b c d ≤ c ∧ mn4 a b c d ≤ d := by
  unfold mn4 mn
  split <;> split <;> split <;> omega
theorem mx4_ge {a b c d : Int} : a ≤ mx4 a b c d ∧ b ≤ mx4 a b c d ∧ c ≤ mx4 a b c d ∧ d ≤ mx4 a b c d := by
  unfold mx4 mx
  split <;> split <;> split <;> omega
/-- x between the ends of a range, times e, less y between the ends of another one, times k. -/
theorem corner {e k fl fh sl sh A B : Int} (h1 : 1000 * fl ≤ A) (h2 : A ≤ 1000 * fh) (h3 : 1000 * sl ≤ B) (h4 : B ≤ 1000 * sh) :
    ∃ f s, (f = fl ∨ f = fh) ∧ (s = sl ∨ s = sh) ∧ 1000 * (f * e - s * k) ≤ A * e - B * k := by
  have hf : ∃ f, (f = fl ∨ f = fh) ∧ 1000 * (f * e) ≤ A * e := by
    rcases Int.le_total 0 e with h | h
    · exact ⟨fl, .inl rfl, by rw [← Int.mul_assoc]; exact Int.mul_le_mul_of_nonneg_right h1 h⟩
    · exact ⟨fh, .inr rfl, by rw [← Int.mul_assoc]; exact Int.mul_le_mul_of_nonpos_right h2 h⟩
  have hs : ∃ s, (s = sl ∨ s = sh) ∧ B * k ≤ 1000 * (s * k) := by
    rcases Int.le_total 0 k with h | h
    · exact ⟨sh, .inr rfl, by rw [← Int.mul_assoc]; exact Int.mul_le_mul_of_nonneg_right h4 h⟩
    · exact ⟨sl, .inl rfl, by rw [← Int.mul_assoc]; exact Int.mul_le_mul_of_nonpos_right h3 h⟩
  obtain ⟨f, hf1, hf2⟩ := hf
  obtain ⟨s, hs1, hs2⟩ := hs
  exact ⟨f, s, hf1, hs1, by omega⟩
theorem corner' {e k fl fh sl sh A B : Int} (h1 : 1000 * fl ≤ A) (h2 : A ≤ 1000 * fh) (h3 : 1000 * sl ≤ B) (h4 : B ≤ 1000 * sh) :
    ∃ f s, (f = fl ∨ f = fh) ∧ (s = sl ∨ s = sh) ∧ A * e - B * k ≤ 1000 * (f * e - s * k) := by
  obtain ⟨f, s, h5, h6, h7⟩ := corner (e := -e) (k := -k) h1 h2 h3 h4
  refine ⟨f, s, h5, h6, ?_⟩
  simp only [Int.mul_neg] at h7
  omega
/-- A number lies between the rounded quotients. -/
theorem in_box {p0 p1 p2 p3 d g : Int} (hd : 0 < d) (h1 : p0 ≤ d * g ∨ p1 ≤ d * g ∨ p2 ≤ d * g ∨ p3 ≤ d * g) (h2 : d * g ≤ p0 ∨ d * g ≤ p1 ∨ d * g ≤ p2 ∨ d * g ≤ p3) : rngB g (mn4 p0 p1 p2 p3 / d) (-(-mx4 p0 p1 p2 p3 / d)) = true := by
  have k1 := mn4_le (a := p0) (b := p1) (c := p2) (d := p3)
  have k2 := mx4_ge (a := p0) (b := p1) (c := p2) (d := p3)
  have l1 : mn4 p0 p1 p2 p3 ≤ g * d := by rw [Int.mul_comm]; omega
  have l2 : -mx4 p0 p1 p2 p3 ≤ -g * d := by rw [Int.neg_mul, Int.mul_comm]; omega
  refine rngB_true.2 ⟨?_, ?_⟩
  · have := Int.ediv_le_ediv hd l1
    rwa [Int.mul_ediv_cancel _ (by omega)] at this
  · have := Int.ediv_le_ediv hd l2
    rw [Int.mul_ediv_cancel _ (by omega)] at this
    omega
theorem siE_mk {u e a b : Int} (h1 : -1000 ≤ u ∧ u ≤ 1000) (h2 : -1000 ≤ e ∧ e ≤ 1000) (h3 : -1000000000 ≤ a) (h4 : b ≤ 1000000000) (h5 : a ≤ b) : siE u e a b = 0 := by
  unfold siE
  rw [if_pos ⟨rngB_true.2 h1, rngB_true.2 h2, rngB_true.2 (by omega), rngB_true.2 (by omega)⟩, if_neg (by omega)]
/-- The movement seen lies in the box of its tracks. -/
theorem seen_box {u e u' e' g g' fl fh sl sh : Int} (a1 : 1000 * fl ≤ u * g + e * g') (a2 : u * g + e * g' ≤ 1000 * fh) (a3 : 1000 * sl ≤ u' * g + e' * g') (a4 : u' * g + e' * g' ≤ 1000 * sh) (hs : siEE u e fl fh u' e' sl sh = 0) (hd : siD u e u' e' ≠ 0) :
    ∃ l0 h0 l1 h1, (∀ m, PCalls Try.prog 27 [siV u e fl fh u' e' sl sh] m (.tuple #[.agg #[.int .i64 l0, .int .i64 h0, .int .i64 l1, .int .i64 h1], .int .i64 0])) ∧ rngB g l0 h0 = true ∧ rngB g' l1 h1 = true := by
  have idU : siD u e u' e' * g = (u * g + e * g') * e' - (u' * g + e' * g') * e := by unfold siD; grind
  have idE : siD u e u' e' * g' = (u * g + e * g') * (-u') - (u' * g + e' * g') * (-u) := by unfold siD; grind
  generalize hA : u * g + e * g' = A at *
  generalize hB : u' * g + e' * g' = B at *
  obtain ⟨f, s, cf, cs, c1⟩ := corner (e := e') (k := e) a1 a2 a3 a4
  obtain ⟨f', s', cf', cs', c2⟩ := corner' (e := e') (k := e) a1 a2 a3 a4
  obtain ⟨f2, s2, cf2, cs2, c3⟩ := corner (e := -u') (k := -u) a1 a2 a3 a4
  obtain ⟨f3, s3, cf3, cs3, c4⟩ := corner' (e := -u') (k := -u) a1 a2 a3 a4
  simp only [Int.mul_neg] at c3 c4 idE
  have lU : ∀ f s, f * e' - s * e = bU e e' f s := fun _ _ => rfl
  have lE : ∀ f s, -(f * u') - -(s * u) = bE u u' f s := fun f s => by unfold bE; omega
  rw [lU f s] at c1
  rw [lU f' s'] at c2
  rw [lE f2 s2] at c3
  rw [lE f3 s3] at c4
  rcases Int.lt_or_gt_of_ne hd with hd | hd
  · refine ⟨_, _, _, _, Box_neg _ _ _ _ _ _ _ _ hs (by omega), in_box (by omega) ?_ ?_, in_box (by omega) ?_ ?_⟩
    all_goals rw [Int.neg_mul]
    · rw [idU]
      rcases cf' with rfl | rfl <;> rcases cs' with rfl | rfl <;> omega
    · rw [idU]
      rcases cf with rfl | rfl <;> rcases cs with rfl | rfl <;> omega
    · rw [idE]
      rcases cf3 with rfl | rfl <;> rcases cs3 with rfl | rfl <;> omega
    · rw [idE]
      rcases cf2 with rfl | rfl <;> rcases cs2 with rfl | rfl <;> omega
  · refine ⟨_, _, _, _, Box_pos _ _ _ _ _ _ _ _ hs hd, in_box hd ?_ ?_, in_box hd ?_ ?_⟩
    · rw [idU]
      rcases cf with rfl | rfl <;> rcases cs with rfl | rfl <;> omega
    · rw [idU]
      rcases cf' with rfl | rfl <;> rcases cs' with rfl | rfl <;> omega
    · rw [idE]
      rcases cf2 with rfl | rfl <;> rcases cs2 with rfl | rfl <;> omega
    · rw [idE]
      rcases cf3 with rfl | rfl <;> rcases cs3 with rfl | rfl <;> omega
end Go.Proofs.Ytnocdnhhlppahaa
