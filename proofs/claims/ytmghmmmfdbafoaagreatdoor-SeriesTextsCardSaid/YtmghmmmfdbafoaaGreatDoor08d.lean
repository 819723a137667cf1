/- Chapter 8: several fractions with one denominator. -/
import Derived.Test.YtmghmmmfdbafoaaGreatDoor08c
set_option linter.unusedSimpArgs false
set_option linter.unusedVariables false
namespace Go.Proofs.YtmghmmmfdbafoaaGreatDoor
open Go Go.RowKit Go.Ab Go.Sr
set_option maxRecDepth 100000
set_option maxHeartbeats 2000000
attribute [local irreducible] OQ OW AL AW AD AF SW

theorem frV_ok {n d : Int} (h : frSm n d = true) : frV n d = .agg #[.int .i64 (frN n d), .int .i64 (frD n d)] ∧ frE n d = 0 := by simp [frV, frE, h]
theorem frV_no {n d : Int} (h : frSm n d = false) : frV n d = .agg #[.int .i64 0, .int .i64 0] ∧ frE n d = 8 := by simp [frV, frE, h]
def twE (a b d : Int) : Int := if d = 0 then 30 else if frSm a d = true ∧ frSm b d = true then 0 else 8
def twV (a b d : Int) : Value := if d ≠ 0 ∧ frSm a d = true ∧ frSm b d = true then .agg #[.int .i64 (frN a d), .int .i64 (frD a d), .int .i64 (frN b d), .int .i64 (frD b d)] else .agg #[.int .i64 0, .int .i64 0, .int .i64 0, .int .i64 0]
def mn (a b : Int) : Int := if b < a then b else a
def mx (a b : Int) : Int := if b > a then b else a
theorem twV_form (a b d : Int) : ∃ p q r s : Int, twV a b d = .agg #[.int .i64 p, .int .i64 q, .int .i64 r, .int .i64 s] := by
  unfold twV
  split
  · exact ⟨_, _, _, _, rfl⟩
  · exact ⟨0, 0, 0, 0, rfl⟩
theorem mn_bd {a b B : Int} (ha : -B ≤ a ∧ a ≤ B) (hb : -B ≤ b ∧ b ≤ B) : -B ≤ mn a b ∧ mn a b ≤ B := by unfold mn; split <;> omega
theorem mx_bd {a b B : Int} (ha : -B ≤ a ∧ a ≤ B) (hb : -B ≤ b ∧ b ≤ B) : -B ≤ mx a b ∧ mx a b ≤ B := by unfold mx; split <;> omega
end Go.Proofs.YtmghmmmfdbafoaaGreatDoor
