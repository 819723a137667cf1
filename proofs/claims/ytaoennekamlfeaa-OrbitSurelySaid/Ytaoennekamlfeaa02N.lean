/- Chapter 2: CheckNearest, joined; an argument of type OrbitNearest, read. -/
import Derived.Test.Ytaoennekamlfeaa02L
import Derived.Test.Ytaoennekamlfeaa02M
import Derived.Test.Ytaoennekamlfeaa02Claim
set_option linter.unusedSimpArgs false
set_option linter.unusedVariables false
namespace Go.Proofs.Ytaoennekamlfeaa
open Go.ChangeShapes Go.WideShapes Go.ChangeAt Go.RowKit Go.Ob

theorem cells_nr : Try.prog.cellsOf 58 = 3 := by kernel_rfl
theorem ints_nr : intsT Try.prog 4 58 = true := by kernel_rfl

set_option maxRecDepth 100000 in
/-- A proof of nearness, read. -/
theorem open_near {H : Type} {enc : TypeId × Value → H} {w : World} {base : Nat} {spare : Nat → Bool} {held : Bool} {r : Reach} {b0 : Nat} {v : Value} {d : DataW H} {p : List MemPlace} (hv : Value.okWide Try.prog w r b0 58 v) (h : DataW.Trod enc Try.prog w base spare held 58 v d p) :
    ∃ x y z, v = cnV x y z ∧ (-9223372036854775808 ≤ x ∧ x ≤ 9223372036854775807) ∧ (-9223372036854775808 ≤ y ∧ y ≤ 9223372036854775807) ∧ (-9223372036854775808 ≤ z ∧ z ≤ 9223372036854775807) := by
  obtain ⟨cs, rfl, hsz⟩ := okWide_struct Try.underlying58 hv
  obtain ⟨l⟩ := cs
  obtain ⟨fuel, hf⟩ := h
  have hi := ints_of 4 _ _ _ _ ints_nr hf
  match l, hsz.trans cells_nr, hi with
  | [c0, c1, c2], _, hi =>
    obtain ⟨x, rfl, hx⟩ := hi c0 (by simp [Value.cells])
    obtain ⟨y, rfl, hy⟩ := hi c1 (by simp [Value.cells])
    obtain ⟨z, rfl, hz⟩ := hi c2 (by simp [Value.cells])
    exact ⟨x, y, z, rfl, wf_bd hx, wf_bd hy, wf_bd hz⟩

theorem cnR_rng {bd : Int} {l : List St} {x y z lo hi wi : Int} (h : rngB lo (frstT l) (lastT l) = false ∨ rngB hi (frstT l) (lastT l) = false ∨ rngB wi (frstT l) (lastT l) = false) : cnR bd l x y z lo hi wi = (0, 2) := by unfold cnR; rw [if_pos h]
theorem cnR_ord {bd : Int} {l : List St} {x y z lo hi wi : Int} (h1 : rngB lo (frstT l) (lastT l) = true) (h2 : rngB hi (frstT l) (lastT l) = true) (h3 : rngB wi (frstT l) (lastT l) = true) (h : hi < lo) : cnR bd l x y z lo hi wi = (0, 9) := by
  unfold cnR; rw [if_neg (by rw [h1, h2, h3]; simp), if_pos h]

theorem rng_cases {lo hi wi F L : Int} : (rngB lo F L = false ∨ rngB hi F L = false ∨ rngB wi F L = false) ∨ (rngB lo F L = true ∧ rngB hi F L = true ∧ rngB wi F L = true) := by
  cases rngB lo F L <;> cases rngB hi F L <;> cases rngB wi F L <;> simp

theorem CheckNearest_any (nm : ByteArray) (bd x y z lo hi wi : Int) (a : Option Addr) (cap : Nat) (l : List St) (w : World) (hO : OrbIn w nm a cap l) :
    Calls Try.prog 31 #[obV nm bd a l.length cap, v3 x y z, cnV lo hi wi] w fun e w' => e = .returned (.tuple #[.int .i64 (cnOr nm.data.toList bd l x y z lo hi wi).1, .int .i64 (cnOr nm.data.toList bd l x y z lo hi wi).2]) ∧ Below w.heap.size w w' := by
  by_cases h : plE nm.data.toList bd l x y z = 0
  · have e : cnOr nm.data.toList bd l x y z lo hi wi = cnR bd l x y z lo hi wi := by unfold cnOr; rw [if_pos h]
    rw [e]
    have hR := (orbE_right ((firstE_two _ _).1 h).1).1
    obtain ⟨b, off, rfl, hbw, hS⟩ := hO.mem hR
    rcases @rng_cases lo hi wi (frstT l) (lastT l) with hr | ⟨h1, h2, h3⟩
    · rw [cnR_rng hr]; exact CheckNearest_rng nm bd x y z lo hi wi b off cap l w hO hS hbw h hr
    · by_cases hlt : hi < lo
      · rw [cnR_ord h1 h2 h3 hlt]; exact CheckNearest_ord nm bd x y z lo hi wi b off cap l w hO hS hbw h h1 h2 h3 hlt
      · exact CheckNearest_loop nm bd x y z lo hi wi b off cap l w hO hS hbw h h1 h2 h3 hlt
  · have e : cnOr nm.data.toList bd l x y z lo hi wi = (0, plE nm.data.toList bd l x y z) := by unfold cnOr; rw [if_neg h]
    rw [e]
    exact CheckNearest_err nm bd x y z lo hi wi a cap l w hO h

theorem rCheckNearest_any (nm : ByteArray) (bd x y z lo hi wi : Int) (b off cap : Nat) (l : List St) (w : World) (hS : HasSts w b off l) (hbw : b < w.heap.size) (h : plE nm.data.toList bd l x y z = 0) :
    Calls Try.prog 32 #[obV nm bd (some ⟨b, off, none⟩) l.length cap, v3 x y z, cnV lo hi wi] w fun e w' => e = .returned (.tuple #[.int .i64 (cnR bd l x y z lo hi wi).1, .int .i64 (cnR bd l x y z lo hi wi).2]) ∧ Below w.heap.size w w' := by
  have hR := (orbE_right ((firstE_two _ _).1 h).1).1
  obtain ⟨hx, hy, hz⟩ := placeE_zero ((firstE_two _ _).1 h).2
  rcases @rng_cases lo hi wi (frstT l) (lastT l) with hr | ⟨h1, h2, h3⟩
  · rw [cnR_rng hr]; exact rCheckNearest_rng nm bd x y z lo hi wi b off cap l w hR hS hbw hr
  · by_cases hlt : hi < lo
    · rw [cnR_ord h1 h2 h3 hlt]; exact rCheckNearest_ord nm bd x y z lo hi wi b off cap l w hR hS hbw h1 h2 h3 hlt
    · exact rCheckNearest_loop nm bd x y z lo hi wi b off cap l w hR hS hbw hx hy hz h1 h2 h3 hlt
end Go.Proofs.Ytaoennekamlfeaa
